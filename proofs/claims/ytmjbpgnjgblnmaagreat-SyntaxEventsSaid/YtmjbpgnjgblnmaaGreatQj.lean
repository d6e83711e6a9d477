/- What the claim stands on: part Qj. -/
import Derived.Test.YtmjbpgnjgblnmaaGreatQi
set_option linter.unusedVariables false
set_option linter.unusedSimpArgs false
namespace Go.Proofs.YtmjbpgnjgblnmaaGreat
open Go.RowKit Go.Proofs.YtmjbpgnjgblnmaaGreatW.PrintWords Go.Proofs.YtmjbpgnjgblnmaaGreatW.PrintLast Go.Proofs.YtmjbpgnjgblnmaaGreatW.PrintMore
theorem yes_maybe {cc : ByteArray} (h : inL cc [⟨#[64, 110, 117, 109, 98, 101, 114]⟩, ⟨#[64, 116, 101, 120, 116]⟩, ⟨#[64, 99, 104, 97, 114]⟩, ⟨#[64, 110, 97, 109, 101]⟩, ⟨#[45]⟩, ⟨#[110, 111, 116]⟩, ⟨#[40]⟩] = true) : RId.expand .r_maybe cc = some [.push [.rule .r_expr]] := by
 have h1 : cc = ⟨#[64, 110, 117, 109, 98, 101, 114]⟩ ∨ cc = ⟨#[64, 116, 101, 120, 116]⟩ ∨ cc = ⟨#[64, 99, 104, 97, 114]⟩ ∨ cc = ⟨#[64, 110, 97, 109, 101]⟩ ∨ cc = ⟨#[45]⟩ ∨ cc = ⟨#[110, 111, 116]⟩ ∨ cc = ⟨#[40]⟩ := by simpa using (inL_iff _ _).1 h
 simp only [RId.expand]
 rw [if_pos h1]
theorem no_maybe {cc : ByteArray} (h : inL cc [⟨#[64, 110, 117, 109, 98, 101, 114]⟩, ⟨#[64, 116, 101, 120, 116]⟩, ⟨#[64, 99, 104, 97, 114]⟩, ⟨#[64, 110, 97, 109, 101]⟩, ⟨#[45]⟩, ⟨#[110, 111, 116]⟩, ⟨#[40]⟩] = false) : RId.expand .r_maybe cc = some [] := by
 have h1 : ¬ (cc = ⟨#[64, 110, 117, 109, 98, 101, 114]⟩ ∨ cc = ⟨#[64, 116, 101, 120, 116]⟩ ∨ cc = ⟨#[64, 99, 104, 97, 114]⟩ ∨ cc = ⟨#[64, 110, 97, 109, 101]⟩ ∨ cc = ⟨#[45]⟩ ∨ cc = ⟨#[110, 111, 116]⟩ ∨ cc = ⟨#[40]⟩) := fun hc => by
  have := (inL_iff cc [⟨#[64, 110, 117, 109, 98, 101, 114]⟩, ⟨#[64, 116, 101, 120, 116]⟩, ⟨#[64, 99, 104, 97, 114]⟩, ⟨#[64, 110, 97, 109, 101]⟩, ⟨#[45]⟩, ⟨#[110, 111, 116]⟩, ⟨#[40]⟩]).2 (by simpa using hc)
  rw [this] at h
  cases h
 simp only [RId.expand]
 rw [if_neg h1]
theorem yes_args {cc : ByteArray} (h : inL cc [⟨#[64, 110, 117, 109, 98, 101, 114]⟩, ⟨#[64, 116, 101, 120, 116]⟩, ⟨#[64, 99, 104, 97, 114]⟩, ⟨#[64, 110, 97, 109, 101]⟩, ⟨#[45]⟩, ⟨#[110, 111, 116]⟩, ⟨#[40]⟩] = true) : RId.expand .r_args cc = some [.push [.rule .r_expr, .rule .r_exprs]] := by
 have h1 : cc = ⟨#[64, 110, 117, 109, 98, 101, 114]⟩ ∨ cc = ⟨#[64, 116, 101, 120, 116]⟩ ∨ cc = ⟨#[64, 99, 104, 97, 114]⟩ ∨ cc = ⟨#[64, 110, 97, 109, 101]⟩ ∨ cc = ⟨#[45]⟩ ∨ cc = ⟨#[110, 111, 116]⟩ ∨ cc = ⟨#[40]⟩ := by simpa using (inL_iff _ _).1 h
 simp only [RId.expand]
 rw [if_pos h1]
theorem no_args {cc : ByteArray} (h : inL cc [⟨#[64, 110, 117, 109, 98, 101, 114]⟩, ⟨#[64, 116, 101, 120, 116]⟩, ⟨#[64, 99, 104, 97, 114]⟩, ⟨#[64, 110, 97, 109, 101]⟩, ⟨#[45]⟩, ⟨#[110, 111, 116]⟩, ⟨#[40]⟩] = false) : RId.expand .r_args cc = some [] := by
 have h1 : ¬ (cc = ⟨#[64, 110, 117, 109, 98, 101, 114]⟩ ∨ cc = ⟨#[64, 116, 101, 120, 116]⟩ ∨ cc = ⟨#[64, 99, 104, 97, 114]⟩ ∨ cc = ⟨#[64, 110, 97, 109, 101]⟩ ∨ cc = ⟨#[45]⟩ ∨ cc = ⟨#[110, 111, 116]⟩ ∨ cc = ⟨#[40]⟩) := fun hc => by
  have := (inL_iff cc [⟨#[64, 110, 117, 109, 98, 101, 114]⟩, ⟨#[64, 116, 101, 120, 116]⟩, ⟨#[64, 99, 104, 97, 114]⟩, ⟨#[64, 110, 97, 109, 101]⟩, ⟨#[45]⟩, ⟨#[110, 111, 116]⟩, ⟨#[40]⟩]).2 (by simpa using hc)
  rw [this] at h
  cases h
 simp only [RId.expand]
 rw [if_neg h1]
theorem yes_compared {cc : ByteArray} (h : inL cc [⟨#[61]⟩, ⟨#[35]⟩, ⟨#[60]⟩, ⟨#[60, 61]⟩, ⟨#[62]⟩, ⟨#[62, 61]⟩] = true) : RId.expand .r_compared cc = some [.push [.word cc, .rule .r_sum]] := by
 have h1 : cc = ⟨#[61]⟩ ∨ cc = ⟨#[35]⟩ ∨ cc = ⟨#[60]⟩ ∨ cc = ⟨#[60, 61]⟩ ∨ cc = ⟨#[62]⟩ ∨ cc = ⟨#[62, 61]⟩ := by simpa using (inL_iff _ _).1 h
 simp only [RId.expand]
 rw [if_pos h1]
theorem no_compared {cc : ByteArray} (h : inL cc [⟨#[61]⟩, ⟨#[35]⟩, ⟨#[60]⟩, ⟨#[60, 61]⟩, ⟨#[62]⟩, ⟨#[62, 61]⟩] = false) : RId.expand .r_compared cc = some [] := by
 have h1 : ¬ (cc = ⟨#[61]⟩ ∨ cc = ⟨#[35]⟩ ∨ cc = ⟨#[60]⟩ ∨ cc = ⟨#[60, 61]⟩ ∨ cc = ⟨#[62]⟩ ∨ cc = ⟨#[62, 61]⟩) := fun hc => by
  have := (inL_iff cc [⟨#[61]⟩, ⟨#[35]⟩, ⟨#[60]⟩, ⟨#[60, 61]⟩, ⟨#[62]⟩, ⟨#[62, 61]⟩]).2 (by simpa using hc)
  rw [this] at h
  cases h
 simp only [RId.expand]
 rw [if_neg h1]
theorem yes_assigned {cc : ByteArray} (h : inL cc [⟨#[58, 61]⟩] = true) : RId.expand .r_assigned cc = some [.push [.word ⟨#[58, 61]⟩, .rule .r_expr]] := by
 have h1 : cc = ⟨#[58, 61]⟩ := by simpa using (inL_iff _ _).1 h
 subst h1
 rfl
theorem no_assigned {cc : ByteArray} (h : inL cc [⟨#[58, 61]⟩] = false) : RId.expand .r_assigned cc = some [] := by
 have h1 : ¬ (cc = ⟨#[58, 61]⟩) := fun hc => by subst hc; exact absurd h (by decide)
 simp only [RId.expand]
 rw [if_neg h1]
set_option maxRecDepth 100000 in
set_option maxHeartbeats 8000000 in
theorem g_statement_2 (l : List Tk) (N : Nat) (G_object : Good l N 96 [.rule .r_object]) (G_expr : Good l N 65 [.rule .r_expr]) : GoodC l N 95 [.rule .r_object, .rule .r_assigned] := by
 intro n hn W0 A c w0 p g i d out ve r H hg hr
 show Calls Tryz.prog 95 _ w0 _
 have HP0 := Lib.hid H
 have HG0 := Lib.hid hg
 have HNN := Lib.hid hn
 have HS0 := Lib.hid (PStep.refl p (.slice none 0 0) ve w0)
 have HT0 := HS0
 have bx := cell_of_row _ _ 0 _ _ _ hg
 have hr0 : srun l n ⟨([.rule .r_object] ++ [.rule .r_assigned]), i, d, out⟩ = some r := hr
 have HR0 := Lib.hid hr0
 clear H hg hn hr hr0
 go_enter Tryz.func95, Tryz.ntmps95
 rcases srun_app l n [.rule .r_object] [.rule .r_assigned] i d out r HR0.out with ⟨er, jj, rfl, h1⟩ | ⟨i1, d1, out1, h1, hr1⟩
 ·skip
  have HX1 := Lib.hid h1
  have HC1 := Lib.hid (G_object n HNN.out W0 A c w0 p i d out ve _ HP0.out HX1.out)
  clear h1
  go_wp2_with (go_at_call 96; (with_reducible refine Calls.mono HC1.out ?_); rintro e w1 ⟨rfl, ve1, h3⟩; have HS1 := Lib.hid (HS0.out.trans h3); clear h3)
  exact ⟨rfl, rfl, ve1, HS1.out⟩
 have HR1 := Lib.hid hr1
 clear hr1
 have HX1 := Lib.hid h1
 have HC1 := Lib.hid (G_object n HNN.out W0 A c w0 p i d out ve _ HP0.out HX1.out)
 clear h1
 go_wp2_with (go_at_call 96; (with_reducible refine Calls.mono HC1.out ?_); rintro e w1 ⟨rfl, ve1, h2, h3⟩; have HP1 := Lib.hid h2; have HS1 := Lib.hid (HS0.out.trans h3); have HG1 := Lib.hid (mkeep (HT0.out.trans h3) HP0.out HG0.out (by decide) (by decide)); have HT1 := Lib.hid (HT0.out.trans h3); clear bx; have bx := cell_of_row _ _ 0 _ _ _ HG1.out; clear h2 h3)
 by_cases hin2' : inL (cAt l i1) [⟨#[58, 61]⟩] = true
 ·have hin2 := hin2'
  clear hin2'
  have hr2 : srun l n ⟨([.word ⟨#[58, 61]⟩] ++ [.rule .r_expr]), i1, d1, out1⟩ = some r := by
   have h := if_yes (S := []) (yes_assigned hin2) HR1.out
   exact (by simpa using h)
  have HR2 := Lib.hid hr2
  clear hr2
  have HI2 := Lib.hid hin2
  have HC2 := Lib.hid ((by have h := is_new HP1.out [⟨#[58, 61]⟩] 1 [.string ⟨#[58, 61]⟩] rfl rfl (by decide) (by decide); rw [HI2.out] at h; exact h))
  clear hin2
  go_wp2_with (go_at_call 47; (with_reducible refine Calls.mono HC2.out ?_); rintro e w2 ⟨rfl, hb⟩; have h3 : MStep p ve1 w1 ve1 w2 := PStep.below hb; have HP2 := Lib.hid (HP1.out.moved hb); have HS2 := Lib.hid (HS1.out.trans h3); have HG2 := Lib.hid (mkeep (HT1.out.trans h3) HP0.out HG0.out (by decide) (by decide)); have HT2 := Lib.hid (HT1.out.trans h3); clear bx; have bx := cell_of_row _ _ 0 _ _ _ HG2.out; clear hb h3)
  rcases srun_app l n [.word ⟨#[58, 61]⟩] [.rule .r_expr] i1 d1 out1 r HR2.out with ⟨er, jj, rfl, h3⟩ | ⟨i3, d3, out3, h3, hr3⟩
  ·skip
   have HX3 := Lib.hid h3
   have HC3 := Lib.hid (words_new HP2.out [⟨#[58, 61]⟩] 1 [.string ⟨#[58, 61]⟩] rfl rfl (by decide) (by decide) HX3.out)
   clear h3
   go_wp2_with (go_at_call 36; (with_reducible refine Calls.mono HC3.out ?_); rintro e w3 ⟨rfl, ve3, h3⟩; have HS3 := Lib.hid (HS2.out.trans h3); clear h3)
   exact ⟨rfl, rfl, ve3, HS3.out⟩
  have HR3 := Lib.hid hr3
  clear hr3
  have HX3 := Lib.hid h3
  have HC3 := Lib.hid (words_new HP2.out [⟨#[58, 61]⟩] 1 [.string ⟨#[58, 61]⟩] rfl rfl (by decide) (by decide) HX3.out)
  clear h3
  go_wp2_with (go_at_call 36; (with_reducible refine Calls.mono HC3.out ?_); rintro e w3 ⟨rfl, ve3, h2, h3⟩; have HP3 := Lib.hid h2; have HS3 := Lib.hid (HS2.out.trans h3); have HG3 := Lib.hid (mkeep (HT2.out.trans h3) HP0.out HG0.out (by decide) (by decide)); have HT3 := Lib.hid (HT2.out.trans h3); clear bx; have bx := cell_of_row _ _ 0 _ _ _ HG3.out; clear h2 h3)
  have h4 := HR3.out
  cases r with
  | ok i4 d4 out4 =>
   have HX4 := Lib.hid h4
   have HC4 := Lib.hid (G_expr n HNN.out W0 A c w3 p i3 d3 out3 ve3 _ HP3.out HX4.out)
   clear h4
   go_wp2_with (go_at_call 65; (with_reducible refine Calls.mono HC4.out ?_); rintro e w4 ⟨rfl, ve4, h2, h3⟩; have HP4 := Lib.hid h2; have HS4 := Lib.hid (HS3.out.trans h3); have HG4 := Lib.hid (mkeep (HT3.out.trans h3) HP0.out HG0.out (by decide) (by decide)); have HT4 := Lib.hid (HT3.out.trans h3); clear bx; have bx := cell_of_row _ _ 0 _ _ _ HG4.out; clear h2 h3)
   go_end0
   exact ⟨rfl, ve4, HP4.out, HS4.out⟩
  | err er jj =>
   have HX4 := Lib.hid h4
   have HC4 := Lib.hid (G_expr n HNN.out W0 A c w3 p i3 d3 out3 ve3 _ HP3.out HX4.out)
   clear h4
   go_wp2_with (go_at_call 65; (with_reducible refine Calls.mono HC4.out ?_); rintro e w4 ⟨rfl, ve4, h3⟩; have HS4 := Lib.hid (HS3.out.trans h3); clear h3)
   exact ⟨rfl, rfl, ve4, HS4.out⟩
 ·have hin2 : inL (cAt l i1) [⟨#[58, 61]⟩] = false := by simpa using hin2'
  clear hin2'
  have hr2 : srun l n ⟨[], i1, d1, out1⟩ = some r := if_no (no_assigned hin2) HR1.out
  obtain ⟨_, rfl⟩ := srun_fin hr2 (q := .ok i1 d1 out1) rfl
  (try clear hr2)
  have HI2 := Lib.hid hin2
  have HC2 := Lib.hid ((by have h := is_new HP1.out [⟨#[58, 61]⟩] 1 [.string ⟨#[58, 61]⟩] rfl rfl (by decide) (by decide); rw [HI2.out] at h; exact h))
  clear hin2
  go_wp2_with (go_at_call 47; (with_reducible refine Calls.mono HC2.out ?_); rintro e w2 ⟨rfl, hb⟩; have h3 : MStep p ve1 w1 ve1 w2 := PStep.below hb; have HP2 := Lib.hid (HP1.out.moved hb); have HS2 := Lib.hid (HS1.out.trans h3); have HG2 := Lib.hid (mkeep (HT1.out.trans h3) HP0.out HG0.out (by decide) (by decide)); have HT2 := Lib.hid (HT1.out.trans h3); clear bx; have bx := cell_of_row _ _ 0 _ _ _ HG2.out; clear hb h3)
  go_end0
  exact ⟨rfl, ve1, HP2.out, HS2.out⟩
set_option maxRecDepth 100000 in
set_option maxHeartbeats 8000000 in
theorem g_other_2 (l : List Tk) (N : Nat) (G_expr : Good l N 65 [.rule .r_expr]) : GoodC l N 123 [.word ⟨#[114, 101, 116, 117, 114, 110]⟩, .rule .r_maybe] := by
 intro n hn W0 A c w0 p g i d out ve r H hg hr
 show Calls Tryz.prog 123 _ w0 _
 have HP0 := Lib.hid H
 have HG0 := Lib.hid hg
 have HNN := Lib.hid hn
 have HS0 := Lib.hid (PStep.refl p (.slice none 0 0) ve w0)
 have HT0 := HS0
 have bx := cell_of_row _ _ 0 _ _ _ hg
 have hr0 : srun l n ⟨([.word ⟨#[114, 101, 116, 117, 114, 110]⟩] ++ [.rule .r_maybe]), i, d, out⟩ = some r := hr
 have HR0 := Lib.hid hr0
 clear H hg hn hr hr0
 go_enter Tryz.func123, Tryz.ntmps123
 rcases srun_app l n [.word ⟨#[114, 101, 116, 117, 114, 110]⟩] [.rule .r_maybe] i d out r HR0.out with ⟨er, jj, rfl, h1⟩ | ⟨i1, d1, out1, h1, hr1⟩
 ·skip
  have HX1 := Lib.hid h1
  have HC1 := Lib.hid (words_new HP0.out [⟨#[114, 101, 116, 117, 114, 110]⟩] 1 [.string ⟨#[114, 101, 116, 117, 114, 110]⟩] rfl rfl (by decide) (by decide) HX1.out)
  clear h1
  go_wp2_with (go_at_call 36; (with_reducible refine Calls.mono HC1.out ?_); rintro e w1 ⟨rfl, ve1, h3⟩; have HS1 := Lib.hid (HS0.out.trans h3); clear h3)
  exact ⟨rfl, rfl, ve1, HS1.out⟩
 have HR1 := Lib.hid hr1
 clear hr1
 have HX1 := Lib.hid h1
 have HC1 := Lib.hid (words_new HP0.out [⟨#[114, 101, 116, 117, 114, 110]⟩] 1 [.string ⟨#[114, 101, 116, 117, 114, 110]⟩] rfl rfl (by decide) (by decide) HX1.out)
 clear h1
 go_wp2_with (go_at_call 36; (with_reducible refine Calls.mono HC1.out ?_); rintro e w1 ⟨rfl, ve1, h2, h3⟩; have HP1 := Lib.hid h2; have HS1 := Lib.hid (HS0.out.trans h3); have HG1 := Lib.hid (mkeep (HT0.out.trans h3) HP0.out HG0.out (by decide) (by decide)); have HT1 := Lib.hid (HT0.out.trans h3); clear bx; have bx := cell_of_row _ _ 0 _ _ _ HG1.out; clear h2 h3)
 by_cases hin2' : inL (cAt l i1) [⟨#[64, 110, 117, 109, 98, 101, 114]⟩, ⟨#[64, 116, 101, 120, 116]⟩, ⟨#[64, 99, 104, 97, 114]⟩, ⟨#[64, 110, 97, 109, 101]⟩, ⟨#[45]⟩, ⟨#[110, 111, 116]⟩, ⟨#[40]⟩] = true
 ·have hin2 := hin2'
  clear hin2'
  have hr2 : srun l n ⟨[.rule .r_expr], i1, d1, out1⟩ = some r := by
   have h := if_yes (S := []) (yes_maybe hin2) HR1.out
   exact (by simpa using h)
  have HR2 := Lib.hid hr2
  clear hr2
  have HI2 := Lib.hid hin2
  have HC2 := Lib.hid ((by have h := begins_new HP1.out; rw [HI2.out] at h; exact h))
  clear hin2
  go_wp2_with (go_at_call 124; (with_reducible refine Calls.mono HC2.out ?_); rintro e w2 ⟨rfl, hb⟩; have h3 : MStep p ve1 w1 ve1 w2 := PStep.below hb; have HP2 := Lib.hid (HP1.out.moved hb); have HS2 := Lib.hid (HS1.out.trans h3); have HG2 := Lib.hid (mkeep (HT1.out.trans h3) HP0.out HG0.out (by decide) (by decide)); have HT2 := Lib.hid (HT1.out.trans h3); clear bx; have bx := cell_of_row _ _ 0 _ _ _ HG2.out; clear hb h3)
  have h3 := HR2.out
  cases r with
  | ok i3 d3 out3 =>
   have HX3 := Lib.hid h3
   have HC3 := Lib.hid (G_expr n HNN.out W0 A c w2 p i1 d1 out1 ve1 _ HP2.out HX3.out)
   clear h3
   go_wp2_with (go_at_call 65; (with_reducible refine Calls.mono HC3.out ?_); rintro e w3 ⟨rfl, ve3, h2, h3⟩; have HP3 := Lib.hid h2; have HS3 := Lib.hid (HS2.out.trans h3); have HG3 := Lib.hid (mkeep (HT2.out.trans h3) HP0.out HG0.out (by decide) (by decide)); have HT3 := Lib.hid (HT2.out.trans h3); clear bx; have bx := cell_of_row _ _ 0 _ _ _ HG3.out; clear h2 h3)
   go_end0
   exact ⟨rfl, ve3, HP3.out, HS3.out⟩
  | err er jj =>
   have HX3 := Lib.hid h3
   have HC3 := Lib.hid (G_expr n HNN.out W0 A c w2 p i1 d1 out1 ve1 _ HP2.out HX3.out)
   clear h3
   go_wp2_with (go_at_call 65; (with_reducible refine Calls.mono HC3.out ?_); rintro e w3 ⟨rfl, ve3, h3⟩; have HS3 := Lib.hid (HS2.out.trans h3); clear h3)
   exact ⟨rfl, rfl, ve3, HS3.out⟩
 ·have hin2 : inL (cAt l i1) [⟨#[64, 110, 117, 109, 98, 101, 114]⟩, ⟨#[64, 116, 101, 120, 116]⟩, ⟨#[64, 99, 104, 97, 114]⟩, ⟨#[64, 110, 97, 109, 101]⟩, ⟨#[45]⟩, ⟨#[110, 111, 116]⟩, ⟨#[40]⟩] = false := by simpa using hin2'
  clear hin2'
  have hr2 : srun l n ⟨[], i1, d1, out1⟩ = some r := if_no (no_maybe hin2) HR1.out
  obtain ⟨_, rfl⟩ := srun_fin hr2 (q := .ok i1 d1 out1) rfl
  (try clear hr2)
  have HI2 := Lib.hid hin2
  have HC2 := Lib.hid ((by have h := begins_new HP1.out; rw [HI2.out] at h; exact h))
  clear hin2
  go_wp2_with (go_at_call 124; (with_reducible refine Calls.mono HC2.out ?_); rintro e w2 ⟨rfl, hb⟩; have h3 : MStep p ve1 w1 ve1 w2 := PStep.below hb; have HP2 := Lib.hid (HP1.out.moved hb); have HS2 := Lib.hid (HS1.out.trans h3); have HG2 := Lib.hid (mkeep (HT1.out.trans h3) HP0.out HG0.out (by decide) (by decide)); have HT2 := Lib.hid (HT1.out.trans h3); clear bx; have bx := cell_of_row _ _ 0 _ _ _ HG2.out; clear hb h3)
  go_end0
  exact ⟨rfl, ve1, HP2.out, HS2.out⟩
set_option maxRecDepth 100000 in
set_option maxHeartbeats 8000000 in
theorem g_selected_3 (l : List Tk) (N : Nat) (G_expr : Good l N 65 [.rule .r_expr]) : GoodC l N 138 [.word ⟨#[40]⟩, .rule .r_args, .word ⟨#[41]⟩] := by
 intro n hn W0 A c w0 p g i d out ve r H hg hr
 show Calls Tryz.prog 138 _ w0 _
 have HP0 := Lib.hid H
 have HG0 := Lib.hid hg
 have HNN := Lib.hid hn
 have HS0 := Lib.hid (PStep.refl p (.slice none 0 0) ve w0)
 have HT0 := HS0
 have bx := cell_of_row _ _ 0 _ _ _ hg
 have hr0 : srun l n ⟨([.word ⟨#[40]⟩] ++ ([.rule .r_args] ++ [.word ⟨#[41]⟩])), i, d, out⟩ = some r := hr
 have HR0 := Lib.hid hr0
 clear H hg hn hr hr0
 go_enter Tryz.func138, Tryz.ntmps138
 rcases srun_app l n [.word ⟨#[40]⟩] ([.rule .r_args] ++ [.word ⟨#[41]⟩]) i d out r HR0.out with ⟨er, jj, rfl, h1⟩ | ⟨i1, d1, out1, h1, hr1⟩
 ·skip
  have HX1 := Lib.hid h1
  have HC1 := Lib.hid (words_new HP0.out [⟨#[40]⟩] 1 [.string ⟨#[40]⟩] rfl rfl (by decide) (by decide) HX1.out)
  clear h1
  go_wp2_with (go_at_call 36; (with_reducible refine Calls.mono HC1.out ?_); rintro e w1 ⟨rfl, ve1, h3⟩; have HS1 := Lib.hid (HS0.out.trans h3); clear h3)
  exact ⟨rfl, rfl, ve1, HS1.out⟩
 have HR1 := Lib.hid hr1
 clear hr1
 have HX1 := Lib.hid h1
 have HC1 := Lib.hid (words_new HP0.out [⟨#[40]⟩] 1 [.string ⟨#[40]⟩] rfl rfl (by decide) (by decide) HX1.out)
 clear h1
 go_wp2_with (go_at_call 36; (with_reducible refine Calls.mono HC1.out ?_); rintro e w1 ⟨rfl, ve1, h2, h3⟩; have HP1 := Lib.hid h2; have HS1 := Lib.hid (HS0.out.trans h3); have HG1 := Lib.hid (mkeep (HT0.out.trans h3) HP0.out HG0.out (by decide) (by decide)); have HT1 := Lib.hid (HT0.out.trans h3); clear bx; have bx := cell_of_row _ _ 0 _ _ _ HG1.out; clear h2 h3)
 by_cases hin2' : inL (cAt l i1) [⟨#[64, 110, 117, 109, 98, 101, 114]⟩, ⟨#[64, 116, 101, 120, 116]⟩, ⟨#[64, 99, 104, 97, 114]⟩, ⟨#[64, 110, 97, 109, 101]⟩, ⟨#[45]⟩, ⟨#[110, 111, 116]⟩, ⟨#[40]⟩] = true
 ·have hin2 := hin2'
  clear hin2'
  have hr2 : srun l n ⟨([.rule .r_expr, .rule .r_exprs] ++ [.word ⟨#[41]⟩]), i1, d1, out1⟩ = some r := by
   have h := if_yes (S := [.word ⟨#[41]⟩]) (yes_args hin2) HR1.out
   exact h
  have HR2 := Lib.hid hr2
  clear hr2
  have HI2 := Lib.hid hin2
  have HC2 := Lib.hid ((by have h := begins_new HP1.out; rw [HI2.out] at h; exact h))
  clear hin2
  go_wp2_with (go_at_call 124; (with_reducible refine Calls.mono HC2.out ?_); rintro e w2 ⟨rfl, hb⟩; have h3 : MStep p ve1 w1 ve1 w2 := PStep.below hb; have HP2 := Lib.hid (HP1.out.moved hb); have HS2 := Lib.hid (HS1.out.trans h3); have HG2 := Lib.hid (mkeep (HT1.out.trans h3) HP0.out HG0.out (by decide) (by decide)); have HT2 := Lib.hid (HT1.out.trans h3); clear bx; have bx := cell_of_row _ _ 0 _ _ _ HG2.out; clear hb h3)
  rcases srun_app l n [.rule .r_expr, .rule .r_exprs] [.word ⟨#[41]⟩] i1 d1 out1 r HR2.out with ⟨er, jj, rfl, h3⟩ | ⟨i3, d3, out3, h3, hr3⟩
  ·skip
   have HX3 := Lib.hid h3
   have HC3 := Lib.hid (row_new HP2.out (.func (.func 65) #[.pointer (some ⟨p, 0, none⟩)] #[]) 65 (.pointer (some ⟨p, 0, none⟩)) (.inl rfl) (fun w => enters_ Tryz.func65 (by kernel_rfl) rfl #[(.pointer (some ⟨p, 0, none⟩))] w) [⟨#[44]⟩] 1 [.string ⟨#[44]⟩] rfl rfl (by decide) (by decide) (T := [.rule .r_expr]) (R := .r_exprs) (fun cc => row_exprs cc) (G_expr.body) HNN.out HX3.out)
   clear h3
   go_wp2_with (go_at_call 68; (with_reducible refine Calls.mono HC3.out ?_); rintro e w3 ⟨rfl, ve3, h3⟩; have HS3 := Lib.hid (HS2.out.trans h3); clear h3)
   exact ⟨rfl, rfl, ve3, HS3.out⟩
  have HR3 := Lib.hid hr3
  clear hr3
  have HX3 := Lib.hid h3
  have HC3 := Lib.hid (row_new HP2.out (.func (.func 65) #[.pointer (some ⟨p, 0, none⟩)] #[]) 65 (.pointer (some ⟨p, 0, none⟩)) (.inl rfl) (fun w => enters_ Tryz.func65 (by kernel_rfl) rfl #[(.pointer (some ⟨p, 0, none⟩))] w) [⟨#[44]⟩] 1 [.string ⟨#[44]⟩] rfl rfl (by decide) (by decide) (T := [.rule .r_expr]) (R := .r_exprs) (fun cc => row_exprs cc) (G_expr.body) HNN.out HX3.out)
  clear h3
  go_wp2_with (go_at_call 68; (with_reducible refine Calls.mono HC3.out ?_); rintro e w3 ⟨rfl, ve3, h2, h3⟩; have HP3 := Lib.hid h2; have HS3 := Lib.hid (HS2.out.trans h3); have HG3 := Lib.hid (mkeep (HT2.out.trans h3) HP0.out HG0.out (by decide) (by decide)); have HT3 := Lib.hid (HT2.out.trans h3); clear bx; have bx := cell_of_row _ _ 0 _ _ _ HG3.out; clear h2 h3)
  have h4 := HR3.out
  cases r with
  | ok i4 d4 out4 =>
   have HX4 := Lib.hid h4
   have HC4 := Lib.hid (words_new HP3.out [⟨#[41]⟩] 1 [.string ⟨#[41]⟩] rfl rfl (by decide) (by decide) HX4.out)
   clear h4
   go_wp2_with (go_at_call 36; (with_reducible refine Calls.mono HC4.out ?_); rintro e w4 ⟨rfl, ve4, h2, h3⟩; have HP4 := Lib.hid h2; have HS4 := Lib.hid (HS3.out.trans h3); have HG4 := Lib.hid (mkeep (HT3.out.trans h3) HP0.out HG0.out (by decide) (by decide)); have HT4 := Lib.hid (HT3.out.trans h3); clear bx; have bx := cell_of_row _ _ 0 _ _ _ HG4.out; clear h2 h3)
   go_end0
   exact ⟨rfl, ve4, HP4.out, HS4.out⟩
  | err er jj =>
   have HX4 := Lib.hid h4
   have HC4 := Lib.hid (words_new HP3.out [⟨#[41]⟩] 1 [.string ⟨#[41]⟩] rfl rfl (by decide) (by decide) HX4.out)
   clear h4
   go_wp2_with (go_at_call 36; (with_reducible refine Calls.mono HC4.out ?_); rintro e w4 ⟨rfl, ve4, h3⟩; have HS4 := Lib.hid (HS3.out.trans h3); clear h3)
   exact ⟨rfl, rfl, ve4, HS4.out⟩
 ·have hin2 : inL (cAt l i1) [⟨#[64, 110, 117, 109, 98, 101, 114]⟩, ⟨#[64, 116, 101, 120, 116]⟩, ⟨#[64, 99, 104, 97, 114]⟩, ⟨#[64, 110, 97, 109, 101]⟩, ⟨#[45]⟩, ⟨#[110, 111, 116]⟩, ⟨#[40]⟩] = false := by simpa using hin2'
  clear hin2'
  have hr2 : srun l n ⟨[.word ⟨#[41]⟩], i1, d1, out1⟩ = some r := if_no (no_args hin2) HR1.out
  have HR2 := Lib.hid hr2
  clear hr2
  have HI2 := Lib.hid hin2
  have HC2 := Lib.hid ((by have h := begins_new HP1.out; rw [HI2.out] at h; exact h))
  clear hin2
  go_wp2_with (go_at_call 124; (with_reducible refine Calls.mono HC2.out ?_); rintro e w2 ⟨rfl, hb⟩; have h3 : MStep p ve1 w1 ve1 w2 := PStep.below hb; have HP2 := Lib.hid (HP1.out.moved hb); have HS2 := Lib.hid (HS1.out.trans h3); have HG2 := Lib.hid (mkeep (HT1.out.trans h3) HP0.out HG0.out (by decide) (by decide)); have HT2 := Lib.hid (HT1.out.trans h3); clear bx; have bx := cell_of_row _ _ 0 _ _ _ HG2.out; clear hb h3)
  have h3 := HR2.out
  cases r with
  | ok i3 d3 out3 =>
   have HX3 := Lib.hid h3
   have HC3 := Lib.hid (words_new HP2.out [⟨#[41]⟩] 1 [.string ⟨#[41]⟩] rfl rfl (by decide) (by decide) HX3.out)
   clear h3
   go_wp2_with (go_at_call 36; (with_reducible refine Calls.mono HC3.out ?_); rintro e w3 ⟨rfl, ve3, h2, h3⟩; have HP3 := Lib.hid h2; have HS3 := Lib.hid (HS2.out.trans h3); have HG3 := Lib.hid (mkeep (HT2.out.trans h3) HP0.out HG0.out (by decide) (by decide)); have HT3 := Lib.hid (HT2.out.trans h3); clear bx; have bx := cell_of_row _ _ 0 _ _ _ HG3.out; clear h2 h3)
   go_end0
   exact ⟨rfl, ve3, HP3.out, HS3.out⟩
  | err er jj =>
   have HX3 := Lib.hid h3
   have HC3 := Lib.hid (words_new HP2.out [⟨#[41]⟩] 1 [.string ⟨#[41]⟩] rfl rfl (by decide) (by decide) HX3.out)
   clear h3
   go_wp2_with (go_at_call 36; (with_reducible refine Calls.mono HC3.out ?_); rintro e w3 ⟨rfl, ve3, h3⟩; have HS3 := Lib.hid (HS2.out.trans h3); clear h3)
   exact ⟨rfl, rfl, ve3, HS3.out⟩
set_option maxRecDepth 100000 in
set_option maxHeartbeats 8000000 in
theorem g_rel_1 (l : List Tk) (N : Nat) (G_sum : Good l N 119 [.rule .r_sum]) : GoodC l N 118 [.rule .r_sum, .rule .r_compared] := by
 intro n hn W0 A c w0 p g i d out ve r H hg hr
 show Calls Tryz.prog 118 _ w0 _
 have HP0 := Lib.hid H
 have HG0 := Lib.hid hg
 have HNN := Lib.hid hn
 have HS0 := Lib.hid (PStep.refl p (.slice none 0 0) ve w0)
 have HT0 := HS0
 have bx := cell_of_row _ _ 0 _ _ _ hg
 have hr0 : srun l n ⟨([.rule .r_sum] ++ [.rule .r_compared]), i, d, out⟩ = some r := hr
 have HR0 := Lib.hid hr0
 clear H hg hn hr hr0
 go_enter Tryz.func118, Tryz.ntmps118
 rcases srun_app l n [.rule .r_sum] [.rule .r_compared] i d out r HR0.out with ⟨er, jj, rfl, h1⟩ | ⟨i1, d1, out1, h1, hr1⟩
 ·skip
  have HX1 := Lib.hid h1
  have HC1 := Lib.hid (G_sum n HNN.out W0 A c w0 p i d out ve _ HP0.out HX1.out)
  clear h1
  go_wp2_with (go_at_call 119; (with_reducible refine Calls.mono HC1.out ?_); rintro e w1 ⟨rfl, ve1, h3⟩; have HS1 := Lib.hid (HS0.out.trans h3); clear h3)
  exact ⟨rfl, rfl, ve1, HS1.out⟩
 have HR1 := Lib.hid hr1
 clear hr1
 have HX1 := Lib.hid h1
 have HC1 := Lib.hid (G_sum n HNN.out W0 A c w0 p i d out ve _ HP0.out HX1.out)
 clear h1
 go_wp2_with (go_at_call 119; (with_reducible refine Calls.mono HC1.out ?_); rintro e w1 ⟨rfl, ve1, h2, h3⟩; have HP1 := Lib.hid h2; have HS1 := Lib.hid (HS0.out.trans h3); have HG1 := Lib.hid (mkeep (HT0.out.trans h3) HP0.out HG0.out (by decide) (by decide)); have HT1 := Lib.hid (HT0.out.trans h3); clear bx; have bx := cell_of_row _ _ 0 _ _ _ HG1.out; clear h2 h3)
 by_cases hin2' : inL (cAt l i1) [⟨#[61]⟩, ⟨#[35]⟩, ⟨#[60]⟩, ⟨#[60, 61]⟩, ⟨#[62]⟩, ⟨#[62, 61]⟩] = true
 ·have hin2 := hin2'
  clear hin2'
  have hr2 : srun l n ⟨([.word (cAt l i1)] ++ [.rule .r_sum]), i1, d1, out1⟩ = some r := by
   have h := if_yes (S := []) (yes_compared hin2) HR1.out
   exact (by simpa using h)
  have HR2 := Lib.hid hr2
  clear hr2
  have HI2 := Lib.hid hin2
  have HC2 := Lib.hid ((by have h := is_new HP1.out [⟨#[61]⟩, ⟨#[35]⟩, ⟨#[60]⟩, ⟨#[60, 61]⟩, ⟨#[62]⟩, ⟨#[62, 61]⟩] 6 [.string ⟨#[61]⟩, .string ⟨#[35]⟩, .string ⟨#[60]⟩, .string ⟨#[60, 61]⟩, .string ⟨#[62]⟩, .string ⟨#[62, 61]⟩] rfl rfl (by decide) (by decide); rw [HI2.out] at h; exact h))
  clear hin2
  go_wp2_with (go_at_call 47; (with_reducible refine Calls.mono HC2.out ?_); rintro e w2 ⟨rfl, hb⟩; have h3 : MStep p ve1 w1 ve1 w2 := PStep.below hb; have HP2 := Lib.hid (HP1.out.moved hb); have HS2 := Lib.hid (HS1.out.trans h3); have HG2 := Lib.hid (mkeep (HT1.out.trans h3) HP0.out HG0.out (by decide) (by decide)); have HT2 := Lib.hid (HT1.out.trans h3); clear bx; have bx := cell_of_row _ _ 0 _ _ _ HG2.out; clear hb h3)
  rcases srun_app l n [.word (cAt l i1)] [.rule .r_sum] i1 d1 out1 r HR2.out with ⟨er, jj, rfl, h3⟩ | ⟨i3, d3, out3, h3, hr3⟩
  ·skip
   have HX3 := Lib.hid h3
   have HC3 := Lib.hid (take_word HP2.out (cAt l i1) [] (take_in (List.all_eq_true.1 (by decide : ([⟨#[61]⟩, ⟨#[35]⟩, ⟨#[60]⟩, ⟨#[60, 61]⟩, ⟨#[62]⟩, ⟨#[62, 61]⟩] : List ByteArray).all goodW = true)) HI2.out) HX3.out)
   clear h3
   go_wp2_with (go_at_call 46; (with_reducible refine Calls.mono HC3.out ?_); rintro e w3 ⟨rfl, ve3, h3⟩; have HS3 := Lib.hid (HS2.out.trans h3); clear h3)
   exact ⟨rfl, rfl, ve3, HS3.out⟩
  have HR3 := Lib.hid hr3
  clear hr3
  have HX3 := Lib.hid h3
  have HC3 := Lib.hid (take_word HP2.out (cAt l i1) [] (take_in (List.all_eq_true.1 (by decide : ([⟨#[61]⟩, ⟨#[35]⟩, ⟨#[60]⟩, ⟨#[60, 61]⟩, ⟨#[62]⟩, ⟨#[62, 61]⟩] : List ByteArray).all goodW = true)) HI2.out) HX3.out)
  clear h3
  go_wp2_with (go_at_call 46; (with_reducible refine Calls.mono HC3.out ?_); rintro e w3 ⟨rfl, ve3, h2, h3⟩; have HP3 := Lib.hid h2; have HS3 := Lib.hid (HS2.out.trans h3); have HG3 := Lib.hid (mkeep (HT2.out.trans h3) HP0.out HG0.out (by decide) (by decide)); have HT3 := Lib.hid (HT2.out.trans h3); clear bx; have bx := cell_of_row _ _ 0 _ _ _ HG3.out; clear h2 h3)
  have h4 := HR3.out
  cases r with
  | ok i4 d4 out4 =>
   have HX4 := Lib.hid h4
   have HC4 := Lib.hid (G_sum n HNN.out W0 A c w3 p i3 d3 out3 ve3 _ HP3.out HX4.out)
   clear h4
   go_wp2_with (go_at_call 119; (with_reducible refine Calls.mono HC4.out ?_); rintro e w4 ⟨rfl, ve4, h2, h3⟩; have HP4 := Lib.hid h2; have HS4 := Lib.hid (HS3.out.trans h3); have HG4 := Lib.hid (mkeep (HT3.out.trans h3) HP0.out HG0.out (by decide) (by decide)); have HT4 := Lib.hid (HT3.out.trans h3); clear bx; have bx := cell_of_row _ _ 0 _ _ _ HG4.out; clear h2 h3)
   go_end0
   exact ⟨rfl, ve4, HP4.out, HS4.out⟩
  | err er jj =>
   have HX4 := Lib.hid h4
   have HC4 := Lib.hid (G_sum n HNN.out W0 A c w3 p i3 d3 out3 ve3 _ HP3.out HX4.out)
   clear h4
   go_wp2_with (go_at_call 119; (with_reducible refine Calls.mono HC4.out ?_); rintro e w4 ⟨rfl, ve4, h3⟩; have HS4 := Lib.hid (HS3.out.trans h3); clear h3)
   exact ⟨rfl, rfl, ve4, HS4.out⟩
 ·have hin2 : inL (cAt l i1) [⟨#[61]⟩, ⟨#[35]⟩, ⟨#[60]⟩, ⟨#[60, 61]⟩, ⟨#[62]⟩, ⟨#[62, 61]⟩] = false := by simpa using hin2'
  clear hin2'
  have hr2 : srun l n ⟨[], i1, d1, out1⟩ = some r := if_no (no_compared hin2) HR1.out
  obtain ⟨_, rfl⟩ := srun_fin hr2 (q := .ok i1 d1 out1) rfl
  (try clear hr2)
  have HI2 := Lib.hid hin2
  have HC2 := Lib.hid ((by have h := is_new HP1.out [⟨#[61]⟩, ⟨#[35]⟩, ⟨#[60]⟩, ⟨#[60, 61]⟩, ⟨#[62]⟩, ⟨#[62, 61]⟩] 6 [.string ⟨#[61]⟩, .string ⟨#[35]⟩, .string ⟨#[60]⟩, .string ⟨#[60, 61]⟩, .string ⟨#[62]⟩, .string ⟨#[62, 61]⟩] rfl rfl (by decide) (by decide); rw [HI2.out] at h; exact h))
  clear hin2
  go_wp2_with (go_at_call 47; (with_reducible refine Calls.mono HC2.out ?_); rintro e w2 ⟨rfl, hb⟩; have h3 : MStep p ve1 w1 ve1 w2 := PStep.below hb; have HP2 := Lib.hid (HP1.out.moved hb); have HS2 := Lib.hid (HS1.out.trans h3); have HG2 := Lib.hid (mkeep (HT1.out.trans h3) HP0.out HG0.out (by decide) (by decide)); have HT2 := Lib.hid (HT1.out.trans h3); clear bx; have bx := cell_of_row _ _ 0 _ _ _ HG2.out; clear hb h3)
  go_end0
  exact ⟨rfl, ve1, HP2.out, HS2.out⟩
end Go.Proofs.YtmjbpgnjgblnmaaGreat
namespace Go.Proofs.YtmjbpgnjgblnmaaGreat
open Go.RowKit Go.Proofs.YtmjbpgnjgblnmaaGreatW.PrintWords Go.Proofs.YtmjbpgnjgblnmaaGreatW.PrintLast Go.Proofs.YtmjbpgnjgblnmaaGreatW.PrintMore
theorem yes_typed {cc : ByteArray} (h : inL cc [⟨#[58]⟩] = true) : RId.expand .r_typed cc = some [.push [.word ⟨#[58]⟩, .rule .r_kind]] := by
 have h1 : cc = ⟨#[58]⟩ := one_of h
 subst h1
 rfl
theorem no_typed {cc : ByteArray} (h : inL cc [⟨#[58]⟩] = false) : RId.expand .r_typed cc = some [] := by
 have h1 : ¬ (cc = ⟨#[58]⟩) := none_of h _ List.mem_cons_self
 simp only [RId.expand]
 rw [if_neg h1]
theorem no_params {cc : ByteArray} (h : inL cc [⟨#[40]⟩] = false) : RId.expand .r_params cc = some [] := by
 have h1 : ¬ (cc = ⟨#[40]⟩) := none_of h _ List.mem_cons_self
 simp only [RId.expand]
 rw [if_neg h1]
set_option maxRecDepth 100000 in
set_option maxHeartbeats 8000000 in
theorem g_proc (l : List Tk) (N : Nat) (G_proc_1 : GoodC l N 92 [.word ⟨#[40]⟩, .rule .r_param, .rule .r_moreParams, .word ⟨#[41]⟩]) (G_kind : Good l N 89 [.rule .r_kind]) (G_block : Good l N 38 [.rule .r_block]) : Good l N 66 [.word ⟨#[112, 114, 111, 99]⟩, .word ⟨#[64, 110, 97, 109, 101]⟩, .rule .r_params, .rule .r_typed, .word ⟨#[59]⟩, .rule .r_block, .word ⟨#[59]⟩] := by
 intro n hn W0 A c w p i d out ve r H hr
 show Calls Tryz.prog 66 _ w _
 have HNN := Lib.hid hn
 have hr0 : srun l n ⟨([.word ⟨#[112, 114, 111, 99]⟩] ++ ([.word ⟨#[64, 110, 97, 109, 101]⟩] ++ ([.rule .r_params] ++ ([.rule .r_typed] ++ ([.word ⟨#[59]⟩] ++ ([.rule .r_block] ++ [.word ⟨#[59]⟩])))))), i, d, out⟩ = some r := hr
 have HR0 := Lib.hid hr0
 clear hn hr hr0
 obtain ⟨w0, hw0⟩ : ∃ V, w.alloc (.cells #[.pointer (some ⟨p, 0, none⟩)] 54) = V := ⟨_, rfl⟩
 have hb0 : Below w.heap.size w w0 := by rw [← hw0]; exact (Below.refl _ w).alloc (Nat.le_refl _) _
 have hg : w0.heap[w.heap.size]? = some (.cells #[.pointer (some ⟨p, 0, none⟩)] 54 (0, 0)) := by rw [← hw0]; exact World.alloc_heap_new _ _
 have HWB := Lib.hid hw0
 have HP0 := Lib.hid (H.moved hb0)
 have HS0 := Lib.hid (PStep.below hb0 : MStep p ve w ve w0)
 have HT0 := Lib.hid (PStep.refl p (.slice none 0 0) ve w0)
 obtain ⟨g, hge⟩ : ∃ g, w.heap.size = g := ⟨_, rfl⟩
 rw [hge] at hg
 have HGE := Lib.hid hge
 have HG0 := Lib.hid hg
 have bx := cell_of_row _ _ 0 _ _ _ hg
 clear hw0 hb0 hg hge H
 go_enter Tryz.func66, Tryz.ntmps66
 go_upto_region 1 with (fail)
 rw [HWB.out, HGE.out]
 rcases srun_app l n [.word ⟨#[112, 114, 111, 99]⟩] ([.word ⟨#[64, 110, 97, 109, 101]⟩] ++ ([.rule .r_params] ++ ([.rule .r_typed] ++ ([.word ⟨#[59]⟩] ++ ([.rule .r_block] ++ [.word ⟨#[59]⟩]))))) i d out r HR0.out with ⟨er, jj, rfl, h1⟩ | ⟨i1, d1, out1, h1, hr1⟩
 ·skip
  have HX1 := Lib.hid h1
  have HC1 := Lib.hid (words_new HP0.out [⟨#[112, 114, 111, 99]⟩] 1 [.string ⟨#[112, 114, 111, 99]⟩] rfl rfl (by decide) (by decide) HX1.out)
  clear h1
  go_wp2_with (go_at_call 36; (with_reducible refine Calls.mono HC1.out ?_); rintro e w1 ⟨rfl, ve1, h3⟩; have HS1 := Lib.hid (HS0.out.trans h3); clear h3)
  exact ⟨rfl, rfl, ve1, HS1.out⟩
 have HR1 := Lib.hid hr1
 clear hr1
 have HX1 := Lib.hid h1
 have HC1 := Lib.hid (words_new HP0.out [⟨#[112, 114, 111, 99]⟩] 1 [.string ⟨#[112, 114, 111, 99]⟩] rfl rfl (by decide) (by decide) HX1.out)
 clear h1
 go_wp2_with (go_at_call 36; (with_reducible refine Calls.mono HC1.out ?_); rintro e w1 ⟨rfl, ve1, h2, h3⟩; have HP1 := Lib.hid h2; have HS1 := Lib.hid (HS0.out.trans h3); have HG1 := Lib.hid (mkeep (HT0.out.trans h3) HP0.out HG0.out (by decide) (by decide)); have HT1 := Lib.hid (HT0.out.trans h3); clear bx; have bx := cell_of_row _ _ 0 _ _ _ HG1.out; clear h2 h3)
 rcases srun_app l n [.word ⟨#[64, 110, 97, 109, 101]⟩] ([.rule .r_params] ++ ([.rule .r_typed] ++ ([.word ⟨#[59]⟩] ++ ([.rule .r_block] ++ [.word ⟨#[59]⟩])))) i1 d1 out1 r HR1.out with ⟨er, jj, rfl, h2⟩ | ⟨i2, d2, out2, h2, hr2⟩
 ·skip
  have HX2 := Lib.hid h2
  have HC2 := Lib.hid (name_any l N n HNN.out W0 A c w1 p i1 d1 out1 ve1 _ HP1.out HX2.out)
  clear h2
  go_wp2_with (go_at_call 37; (with_reducible refine Calls.mono HC2.out ?_); rintro e w2 ⟨rfl, ve2, h3⟩; have HS2 := Lib.hid (HS1.out.trans h3); clear h3)
  exact ⟨rfl, rfl, ve2, HS2.out⟩
 have HR2 := Lib.hid hr2
 clear hr2
 have HX2 := Lib.hid h2
 have HC2 := Lib.hid (name_any l N n HNN.out W0 A c w1 p i1 d1 out1 ve1 _ HP1.out HX2.out)
 clear h2
 go_wp2_with (go_at_call 37; (with_reducible refine Calls.mono HC2.out ?_); rintro e w2 ⟨rfl, ve2, h2, h3⟩; have HP2 := Lib.hid h2; have HS2 := Lib.hid (HS1.out.trans h3); have HG2 := Lib.hid (mkeep (HT1.out.trans h3) HP0.out HG0.out (by decide) (by decide)); have HT2 := Lib.hid (HT1.out.trans h3); clear bx; have bx := cell_of_row _ _ 0 _ _ _ HG2.out; clear h2 h3)
 by_cases hin3' : inL (cAt l i2) [⟨#[40]⟩] = true
 ·have hin3 := hin3'
  clear hin3'
  have hr3 := HR2.out
  have HR3 := Lib.hid hr3
  clear hr3
  have HI3 := Lib.hid hin3
  have HC3 := Lib.hid ((by have h := is_new HP2.out [⟨#[40]⟩] 1 [.string ⟨#[40]⟩] rfl rfl (by decide) (by decide); rw [HI3.out] at h; exact h))
  clear hin3
  go_wp2_with (go_at_call 47; (with_reducible refine Calls.mono HC3.out ?_); rintro e w3 ⟨rfl, hb⟩; have h3 : MStep p ve2 w2 ve2 w3 := PStep.below hb; have HP3 := Lib.hid (HP2.out.moved hb); have HS3 := Lib.hid (HS2.out.trans h3); have HG3 := Lib.hid (mkeep (HT2.out.trans h3) HP0.out HG0.out (by decide) (by decide)); have HT3 := Lib.hid (HT2.out.trans h3); clear bx; have bx := cell_of_row _ _ 0 _ _ _ HG3.out; clear hb h3)
  rcases srun_app l n [.rule .r_params] ([.rule .r_typed] ++ ([.word ⟨#[59]⟩] ++ ([.rule .r_block] ++ [.word ⟨#[59]⟩]))) i2 d2 out2 r HR3.out with ⟨er, jj, rfl, h4⟩ | ⟨i4, d4, out4, h4, hr4⟩
  ·skip
   have HX4 := Lib.hid h4
   have HC4 := Lib.hid (node_rule HP3.out 6 6 rfl (.func (.func 92) #[] #[.pointer (some ⟨g, 0, none⟩)]) 92 (.pointer (some ⟨g, 0, none⟩)) (.inr rfl) (fun w => enters_ Tryz.func92 (by kernel_rfl) rfl #[(.pointer (some ⟨g, 0, none⟩))] w) (T := [.word ⟨#[40]⟩, .rule .r_param, .rule .r_moreParams, .word ⟨#[41]⟩]) (R := .r_params) (by rw [one_of HI3.out]; rfl) (G_proc_1.body HP3.out HG3.out) (Nat.le_succ_of_le HNN.out) HX4.out)
   clear h4
   go_wp2_with (go_at_call 33; (with_reducible refine Calls.mono HC4.out ?_); rintro e w4 ⟨rfl, ve4, h3⟩; have HS4 := Lib.hid (HS3.out.trans h3); clear h3)
   exact ⟨rfl, rfl, ve4, HS4.out⟩
  have HR4 := Lib.hid hr4
  clear hr4
  have HX4 := Lib.hid h4
  have HC4 := Lib.hid (node_rule HP3.out 6 6 rfl (.func (.func 92) #[] #[.pointer (some ⟨g, 0, none⟩)]) 92 (.pointer (some ⟨g, 0, none⟩)) (.inr rfl) (fun w => enters_ Tryz.func92 (by kernel_rfl) rfl #[(.pointer (some ⟨g, 0, none⟩))] w) (T := [.word ⟨#[40]⟩, .rule .r_param, .rule .r_moreParams, .word ⟨#[41]⟩]) (R := .r_params) (by rw [one_of HI3.out]; rfl) (G_proc_1.body HP3.out HG3.out) (Nat.le_succ_of_le HNN.out) HX4.out)
  clear h4
  go_wp2_with (go_at_call 33; (with_reducible refine Calls.mono HC4.out ?_); rintro e w4 ⟨rfl, ve4, h2, h3⟩; have HP4 := Lib.hid h2; have HS4 := Lib.hid (HS3.out.trans h3); have HG4 := Lib.hid (mkeep (HT3.out.trans h3) HP0.out HG0.out (by decide) (by decide)); have HT4 := Lib.hid (HT3.out.trans h3); clear bx; have bx := cell_of_row _ _ 0 _ _ _ HG4.out; clear h2 h3)
  by_cases hin5' : inL (cAt l i4) [⟨#[58]⟩] = true
  ·have hin5 := hin5'
   clear hin5'
   have hr5 : srun l n ⟨([.word ⟨#[58]⟩] ++ ([.rule .r_kind] ++ ([.word ⟨#[59]⟩] ++ ([.rule .r_block] ++ [.word ⟨#[59]⟩])))), i4, d4, out4⟩ = some r := by
    have h := if_yes (S := ([.word ⟨#[59]⟩] ++ ([.rule .r_block] ++ [.word ⟨#[59]⟩]))) (yes_typed hin5) HR4.out
    exact h
   have HR5 := Lib.hid hr5
   clear hr5
   have HI5 := Lib.hid hin5
   have HC5 := Lib.hid ((by have h := is_new HP4.out [⟨#[58]⟩] 1 [.string ⟨#[58]⟩] rfl rfl (by decide) (by decide); rw [HI5.out] at h; exact h))
   clear hin5
   go_wp2_with (go_at_call 47; (with_reducible refine Calls.mono HC5.out ?_); rintro e w5 ⟨rfl, hb⟩; have h3 : MStep p ve4 w4 ve4 w5 := PStep.below hb; have HP5 := Lib.hid (HP4.out.moved hb); have HS5 := Lib.hid (HS4.out.trans h3); have HG5 := Lib.hid (mkeep (HT4.out.trans h3) HP0.out HG0.out (by decide) (by decide)); have HT5 := Lib.hid (HT4.out.trans h3); clear bx; have bx := cell_of_row _ _ 0 _ _ _ HG5.out; clear hb h3)
   rcases srun_app l n [.word ⟨#[58]⟩] ([.rule .r_kind] ++ ([.word ⟨#[59]⟩] ++ ([.rule .r_block] ++ [.word ⟨#[59]⟩]))) i4 d4 out4 r HR5.out with ⟨er, jj, rfl, h6⟩ | ⟨i6, d6, out6, h6, hr6⟩
   ·skip
    have HX6 := Lib.hid h6
    have HC6 := Lib.hid (words_new HP5.out [⟨#[58]⟩] 1 [.string ⟨#[58]⟩] rfl rfl (by decide) (by decide) HX6.out)
    clear h6
    go_wp2_with (go_at_call 36; (with_reducible refine Calls.mono HC6.out ?_); rintro e w6 ⟨rfl, ve6, h3⟩; have HS6 := Lib.hid (HS5.out.trans h3); clear h3)
    exact ⟨rfl, rfl, ve6, HS6.out⟩
   have HR6 := Lib.hid hr6
   clear hr6
   have HX6 := Lib.hid h6
   have HC6 := Lib.hid (words_new HP5.out [⟨#[58]⟩] 1 [.string ⟨#[58]⟩] rfl rfl (by decide) (by decide) HX6.out)
   clear h6
   go_wp2_with (go_at_call 36; (with_reducible refine Calls.mono HC6.out ?_); rintro e w6 ⟨rfl, ve6, h2, h3⟩; have HP6 := Lib.hid h2; have HS6 := Lib.hid (HS5.out.trans h3); have HG6 := Lib.hid (mkeep (HT5.out.trans h3) HP0.out HG0.out (by decide) (by decide)); have HT6 := Lib.hid (HT5.out.trans h3); clear bx; have bx := cell_of_row _ _ 0 _ _ _ HG6.out; clear h2 h3)
   rcases srun_app l n [.rule .r_kind] ([.word ⟨#[59]⟩] ++ ([.rule .r_block] ++ [.word ⟨#[59]⟩])) i6 d6 out6 r HR6.out with ⟨er, jj, rfl, h7⟩ | ⟨i7, d7, out7, h7, hr7⟩
   ·skip
    have HX7 := Lib.hid h7
    have HC7 := Lib.hid (G_kind n HNN.out W0 A c w6 p i6 d6 out6 ve6 _ HP6.out HX7.out)
    clear h7
    go_wp2_with (go_at_call 89; (with_reducible refine Calls.mono HC7.out ?_); rintro e w7 ⟨rfl, ve7, h3⟩; have HS7 := Lib.hid (HS6.out.trans h3); clear h3)
    exact ⟨rfl, rfl, ve7, HS7.out⟩
   have HR7 := Lib.hid hr7
   clear hr7
   have HX7 := Lib.hid h7
   have HC7 := Lib.hid (G_kind n HNN.out W0 A c w6 p i6 d6 out6 ve6 _ HP6.out HX7.out)
   clear h7
   go_wp2_with (go_at_call 89; (with_reducible refine Calls.mono HC7.out ?_); rintro e w7 ⟨rfl, ve7, h2, h3⟩; have HP7 := Lib.hid h2; have HS7 := Lib.hid (HS6.out.trans h3); have HG7 := Lib.hid (mkeep (HT6.out.trans h3) HP0.out HG0.out (by decide) (by decide)); have HT7 := Lib.hid (HT6.out.trans h3); clear bx; have bx := cell_of_row _ _ 0 _ _ _ HG7.out; clear h2 h3)
   rcases srun_app l n [.word ⟨#[59]⟩] ([.rule .r_block] ++ [.word ⟨#[59]⟩]) i7 d7 out7 r HR7.out with ⟨er, jj, rfl, h8⟩ | ⟨i8, d8, out8, h8, hr8⟩
   ·skip
    have HX8 := Lib.hid h8
    have HC8 := Lib.hid (words_new HP7.out [⟨#[59]⟩] 1 [.string ⟨#[59]⟩] rfl rfl (by decide) (by decide) HX8.out)
    clear h8
    go_wp2_with (go_at_call 36; (with_reducible refine Calls.mono HC8.out ?_); rintro e w8 ⟨rfl, ve8, h3⟩; have HS8 := Lib.hid (HS7.out.trans h3); clear h3)
    exact ⟨rfl, rfl, ve8, HS8.out⟩
   have HR8 := Lib.hid hr8
   clear hr8
   have HX8 := Lib.hid h8
   have HC8 := Lib.hid (words_new HP7.out [⟨#[59]⟩] 1 [.string ⟨#[59]⟩] rfl rfl (by decide) (by decide) HX8.out)
   clear h8
   go_wp2_with (go_at_call 36; (with_reducible refine Calls.mono HC8.out ?_); rintro e w8 ⟨rfl, ve8, h2, h3⟩; have HP8 := Lib.hid h2; have HS8 := Lib.hid (HS7.out.trans h3); have HG8 := Lib.hid (mkeep (HT7.out.trans h3) HP0.out HG0.out (by decide) (by decide)); have HT8 := Lib.hid (HT7.out.trans h3); clear bx; have bx := cell_of_row _ _ 0 _ _ _ HG8.out; clear h2 h3)
   rcases srun_app l n [.rule .r_block] [.word ⟨#[59]⟩] i8 d8 out8 r HR8.out with ⟨er, jj, rfl, h9⟩ | ⟨i9, d9, out9, h9, hr9⟩
   ·skip
    have HX9 := Lib.hid h9
    have HC9 := Lib.hid (G_block n HNN.out W0 A c w8 p i8 d8 out8 ve8 _ HP8.out HX9.out)
    clear h9
    go_wp2_with (go_at_call 38; (with_reducible refine Calls.mono HC9.out ?_); rintro e w9 ⟨rfl, ve9, h3⟩; have HS9 := Lib.hid (HS8.out.trans h3); clear h3)
    exact ⟨rfl, rfl, ve9, HS9.out⟩
   have HR9 := Lib.hid hr9
   clear hr9
   have HX9 := Lib.hid h9
   have HC9 := Lib.hid (G_block n HNN.out W0 A c w8 p i8 d8 out8 ve8 _ HP8.out HX9.out)
   clear h9
   go_wp2_with (go_at_call 38; (with_reducible refine Calls.mono HC9.out ?_); rintro e w9 ⟨rfl, ve9, h2, h3⟩; have HP9 := Lib.hid h2; have HS9 := Lib.hid (HS8.out.trans h3); have HG9 := Lib.hid (mkeep (HT8.out.trans h3) HP0.out HG0.out (by decide) (by decide)); have HT9 := Lib.hid (HT8.out.trans h3); clear bx; have bx := cell_of_row _ _ 0 _ _ _ HG9.out; clear h2 h3)
   have h10 := HR9.out
   cases r with
   | ok i10 d10 out10 =>
    have HX10 := Lib.hid h10
    have HC10 := Lib.hid (words_new HP9.out [⟨#[59]⟩] 1 [.string ⟨#[59]⟩] rfl rfl (by decide) (by decide) HX10.out)
    clear h10
    go_wp2_with (go_at_call 36; (with_reducible refine Calls.mono HC10.out ?_); rintro e w10 ⟨rfl, ve10, h2, h3⟩; have HP10 := Lib.hid h2; have HS10 := Lib.hid (HS9.out.trans h3); have HG10 := Lib.hid (mkeep (HT9.out.trans h3) HP0.out HG0.out (by decide) (by decide)); have HT10 := Lib.hid (HT9.out.trans h3); clear bx; have bx := cell_of_row _ _ 0 _ _ _ HG10.out; clear h2 h3)
    go_end0
    exact ⟨rfl, ve10, HP10.out, HS10.out⟩
   | err er jj =>
    have HX10 := Lib.hid h10
    have HC10 := Lib.hid (words_new HP9.out [⟨#[59]⟩] 1 [.string ⟨#[59]⟩] rfl rfl (by decide) (by decide) HX10.out)
    clear h10
    go_wp2_with (go_at_call 36; (with_reducible refine Calls.mono HC10.out ?_); rintro e w10 ⟨rfl, ve10, h3⟩; have HS10 := Lib.hid (HS9.out.trans h3); clear h3)
    exact ⟨rfl, rfl, ve10, HS10.out⟩
  ·have hin5 : inL (cAt l i4) [⟨#[58]⟩] = false := by simpa using hin5'
   clear hin5'
   have hr5 : srun l n ⟨([.word ⟨#[59]⟩] ++ ([.rule .r_block] ++ [.word ⟨#[59]⟩])), i4, d4, out4⟩ = some r := if_no (no_typed hin5) HR4.out
   have HR5 := Lib.hid hr5
   clear hr5
   have HI5 := Lib.hid hin5
   have HC5 := Lib.hid ((by have h := is_new HP4.out [⟨#[58]⟩] 1 [.string ⟨#[58]⟩] rfl rfl (by decide) (by decide); rw [HI5.out] at h; exact h))
   clear hin5
   go_wp2_with (go_at_call 47; (with_reducible refine Calls.mono HC5.out ?_); rintro e w5 ⟨rfl, hb⟩; have h3 : MStep p ve4 w4 ve4 w5 := PStep.below hb; have HP5 := Lib.hid (HP4.out.moved hb); have HS5 := Lib.hid (HS4.out.trans h3); have HG5 := Lib.hid (mkeep (HT4.out.trans h3) HP0.out HG0.out (by decide) (by decide)); have HT5 := Lib.hid (HT4.out.trans h3); clear bx; have bx := cell_of_row _ _ 0 _ _ _ HG5.out; clear hb h3)
   rcases srun_app l n [.word ⟨#[59]⟩] ([.rule .r_block] ++ [.word ⟨#[59]⟩]) i4 d4 out4 r HR5.out with ⟨er, jj, rfl, h6⟩ | ⟨i6, d6, out6, h6, hr6⟩
   ·skip
    have HX6 := Lib.hid h6
    have HC6 := Lib.hid (words_new HP5.out [⟨#[59]⟩] 1 [.string ⟨#[59]⟩] rfl rfl (by decide) (by decide) HX6.out)
    clear h6
    go_wp2_with (go_at_call 36; (with_reducible refine Calls.mono HC6.out ?_); rintro e w6 ⟨rfl, ve6, h3⟩; have HS6 := Lib.hid (HS5.out.trans h3); clear h3)
    exact ⟨rfl, rfl, ve6, HS6.out⟩
   have HR6 := Lib.hid hr6
   clear hr6
   have HX6 := Lib.hid h6
   have HC6 := Lib.hid (words_new HP5.out [⟨#[59]⟩] 1 [.string ⟨#[59]⟩] rfl rfl (by decide) (by decide) HX6.out)
   clear h6
   go_wp2_with (go_at_call 36; (with_reducible refine Calls.mono HC6.out ?_); rintro e w6 ⟨rfl, ve6, h2, h3⟩; have HP6 := Lib.hid h2; have HS6 := Lib.hid (HS5.out.trans h3); have HG6 := Lib.hid (mkeep (HT5.out.trans h3) HP0.out HG0.out (by decide) (by decide)); have HT6 := Lib.hid (HT5.out.trans h3); clear bx; have bx := cell_of_row _ _ 0 _ _ _ HG6.out; clear h2 h3)
   rcases srun_app l n [.rule .r_block] [.word ⟨#[59]⟩] i6 d6 out6 r HR6.out with ⟨er, jj, rfl, h7⟩ | ⟨i7, d7, out7, h7, hr7⟩
   ·skip
    have HX7 := Lib.hid h7
    have HC7 := Lib.hid (G_block n HNN.out W0 A c w6 p i6 d6 out6 ve6 _ HP6.out HX7.out)
    clear h7
    go_wp2_with (go_at_call 38; (with_reducible refine Calls.mono HC7.out ?_); rintro e w7 ⟨rfl, ve7, h3⟩; have HS7 := Lib.hid (HS6.out.trans h3); clear h3)
    exact ⟨rfl, rfl, ve7, HS7.out⟩
   have HR7 := Lib.hid hr7
   clear hr7
   have HX7 := Lib.hid h7
   have HC7 := Lib.hid (G_block n HNN.out W0 A c w6 p i6 d6 out6 ve6 _ HP6.out HX7.out)
   clear h7
   go_wp2_with (go_at_call 38; (with_reducible refine Calls.mono HC7.out ?_); rintro e w7 ⟨rfl, ve7, h2, h3⟩; have HP7 := Lib.hid h2; have HS7 := Lib.hid (HS6.out.trans h3); have HG7 := Lib.hid (mkeep (HT6.out.trans h3) HP0.out HG0.out (by decide) (by decide)); have HT7 := Lib.hid (HT6.out.trans h3); clear bx; have bx := cell_of_row _ _ 0 _ _ _ HG7.out; clear h2 h3)
   have h8 := HR7.out
   cases r with
   | ok i8 d8 out8 =>
    have HX8 := Lib.hid h8
    have HC8 := Lib.hid (words_new HP7.out [⟨#[59]⟩] 1 [.string ⟨#[59]⟩] rfl rfl (by decide) (by decide) HX8.out)
    clear h8
    go_wp2_with (go_at_call 36; (with_reducible refine Calls.mono HC8.out ?_); rintro e w8 ⟨rfl, ve8, h2, h3⟩; have HP8 := Lib.hid h2; have HS8 := Lib.hid (HS7.out.trans h3); have HG8 := Lib.hid (mkeep (HT7.out.trans h3) HP0.out HG0.out (by decide) (by decide)); have HT8 := Lib.hid (HT7.out.trans h3); clear bx; have bx := cell_of_row _ _ 0 _ _ _ HG8.out; clear h2 h3)
    go_end0
    exact ⟨rfl, ve8, HP8.out, HS8.out⟩
   | err er jj =>
    have HX8 := Lib.hid h8
    have HC8 := Lib.hid (words_new HP7.out [⟨#[59]⟩] 1 [.string ⟨#[59]⟩] rfl rfl (by decide) (by decide) HX8.out)
    clear h8
    go_wp2_with (go_at_call 36; (with_reducible refine Calls.mono HC8.out ?_); rintro e w8 ⟨rfl, ve8, h3⟩; have HS8 := Lib.hid (HS7.out.trans h3); clear h3)
    exact ⟨rfl, rfl, ve8, HS8.out⟩
 ·have hin3 : inL (cAt l i2) [⟨#[40]⟩] = false := by simpa using hin3'
  clear hin3'
  have hr3 : srun l n ⟨([.rule .r_typed] ++ ([.word ⟨#[59]⟩] ++ ([.rule .r_block] ++ [.word ⟨#[59]⟩]))), i2, d2, out2⟩ = some r := if_no (no_params hin3) HR2.out
  have HR3 := Lib.hid hr3
  clear hr3
  have HI3 := Lib.hid hin3
  have HC3 := Lib.hid ((by have h := is_new HP2.out [⟨#[40]⟩] 1 [.string ⟨#[40]⟩] rfl rfl (by decide) (by decide); rw [HI3.out] at h; exact h))
  clear hin3
  go_wp2_with (go_at_call 47; (with_reducible refine Calls.mono HC3.out ?_); rintro e w3 ⟨rfl, hb⟩; have h3 : MStep p ve2 w2 ve2 w3 := PStep.below hb; have HP3 := Lib.hid (HP2.out.moved hb); have HS3 := Lib.hid (HS2.out.trans h3); have HG3 := Lib.hid (mkeep (HT2.out.trans h3) HP0.out HG0.out (by decide) (by decide)); have HT3 := Lib.hid (HT2.out.trans h3); clear bx; have bx := cell_of_row _ _ 0 _ _ _ HG3.out; clear hb h3)
  by_cases hin4' : inL (cAt l i2) [⟨#[58]⟩] = true
  ·have hin4 := hin4'
   clear hin4'
   have hr4 : srun l n ⟨([.word ⟨#[58]⟩] ++ ([.rule .r_kind] ++ ([.word ⟨#[59]⟩] ++ ([.rule .r_block] ++ [.word ⟨#[59]⟩])))), i2, d2, out2⟩ = some r := by
    have h := if_yes (S := ([.word ⟨#[59]⟩] ++ ([.rule .r_block] ++ [.word ⟨#[59]⟩]))) (yes_typed hin4) HR3.out
    exact h
   have HR4 := Lib.hid hr4
   clear hr4
   have HI4 := Lib.hid hin4
   have HC4 := Lib.hid ((by have h := is_new HP3.out [⟨#[58]⟩] 1 [.string ⟨#[58]⟩] rfl rfl (by decide) (by decide); rw [HI4.out] at h; exact h))
   clear hin4
   go_wp2_with (go_at_call 47; (with_reducible refine Calls.mono HC4.out ?_); rintro e w4 ⟨rfl, hb⟩; have h3 : MStep p ve2 w3 ve2 w4 := PStep.below hb; have HP4 := Lib.hid (HP3.out.moved hb); have HS4 := Lib.hid (HS3.out.trans h3); have HG4 := Lib.hid (mkeep (HT3.out.trans h3) HP0.out HG0.out (by decide) (by decide)); have HT4 := Lib.hid (HT3.out.trans h3); clear bx; have bx := cell_of_row _ _ 0 _ _ _ HG4.out; clear hb h3)
   rcases srun_app l n [.word ⟨#[58]⟩] ([.rule .r_kind] ++ ([.word ⟨#[59]⟩] ++ ([.rule .r_block] ++ [.word ⟨#[59]⟩]))) i2 d2 out2 r HR4.out with ⟨er, jj, rfl, h5⟩ | ⟨i5, d5, out5, h5, hr5⟩
   ·skip
    have HX5 := Lib.hid h5
    have HC5 := Lib.hid (words_new HP4.out [⟨#[58]⟩] 1 [.string ⟨#[58]⟩] rfl rfl (by decide) (by decide) HX5.out)
    clear h5
    go_wp2_with (go_at_call 36; (with_reducible refine Calls.mono HC5.out ?_); rintro e w5 ⟨rfl, ve5, h3⟩; have HS5 := Lib.hid (HS4.out.trans h3); clear h3)
    exact ⟨rfl, rfl, ve5, HS5.out⟩
   have HR5 := Lib.hid hr5
   clear hr5
   have HX5 := Lib.hid h5
   have HC5 := Lib.hid (words_new HP4.out [⟨#[58]⟩] 1 [.string ⟨#[58]⟩] rfl rfl (by decide) (by decide) HX5.out)
   clear h5
   go_wp2_with (go_at_call 36; (with_reducible refine Calls.mono HC5.out ?_); rintro e w5 ⟨rfl, ve5, h2, h3⟩; have HP5 := Lib.hid h2; have HS5 := Lib.hid (HS4.out.trans h3); have HG5 := Lib.hid (mkeep (HT4.out.trans h3) HP0.out HG0.out (by decide) (by decide)); have HT5 := Lib.hid (HT4.out.trans h3); clear bx; have bx := cell_of_row _ _ 0 _ _ _ HG5.out; clear h2 h3)
   rcases srun_app l n [.rule .r_kind] ([.word ⟨#[59]⟩] ++ ([.rule .r_block] ++ [.word ⟨#[59]⟩])) i5 d5 out5 r HR5.out with ⟨er, jj, rfl, h6⟩ | ⟨i6, d6, out6, h6, hr6⟩
   ·skip
    have HX6 := Lib.hid h6
    have HC6 := Lib.hid (G_kind n HNN.out W0 A c w5 p i5 d5 out5 ve5 _ HP5.out HX6.out)
    clear h6
    go_wp2_with (go_at_call 89; (with_reducible refine Calls.mono HC6.out ?_); rintro e w6 ⟨rfl, ve6, h3⟩; have HS6 := Lib.hid (HS5.out.trans h3); clear h3)
    exact ⟨rfl, rfl, ve6, HS6.out⟩
   have HR6 := Lib.hid hr6
   clear hr6
   have HX6 := Lib.hid h6
   have HC6 := Lib.hid (G_kind n HNN.out W0 A c w5 p i5 d5 out5 ve5 _ HP5.out HX6.out)
   clear h6
   go_wp2_with (go_at_call 89; (with_reducible refine Calls.mono HC6.out ?_); rintro e w6 ⟨rfl, ve6, h2, h3⟩; have HP6 := Lib.hid h2; have HS6 := Lib.hid (HS5.out.trans h3); have HG6 := Lib.hid (mkeep (HT5.out.trans h3) HP0.out HG0.out (by decide) (by decide)); have HT6 := Lib.hid (HT5.out.trans h3); clear bx; have bx := cell_of_row _ _ 0 _ _ _ HG6.out; clear h2 h3)
   rcases srun_app l n [.word ⟨#[59]⟩] ([.rule .r_block] ++ [.word ⟨#[59]⟩]) i6 d6 out6 r HR6.out with ⟨er, jj, rfl, h7⟩ | ⟨i7, d7, out7, h7, hr7⟩
   ·skip
    have HX7 := Lib.hid h7
    have HC7 := Lib.hid (words_new HP6.out [⟨#[59]⟩] 1 [.string ⟨#[59]⟩] rfl rfl (by decide) (by decide) HX7.out)
    clear h7
    go_wp2_with (go_at_call 36; (with_reducible refine Calls.mono HC7.out ?_); rintro e w7 ⟨rfl, ve7, h3⟩; have HS7 := Lib.hid (HS6.out.trans h3); clear h3)
    exact ⟨rfl, rfl, ve7, HS7.out⟩
   have HR7 := Lib.hid hr7
   clear hr7
   have HX7 := Lib.hid h7
   have HC7 := Lib.hid (words_new HP6.out [⟨#[59]⟩] 1 [.string ⟨#[59]⟩] rfl rfl (by decide) (by decide) HX7.out)
   clear h7
   go_wp2_with (go_at_call 36; (with_reducible refine Calls.mono HC7.out ?_); rintro e w7 ⟨rfl, ve7, h2, h3⟩; have HP7 := Lib.hid h2; have HS7 := Lib.hid (HS6.out.trans h3); have HG7 := Lib.hid (mkeep (HT6.out.trans h3) HP0.out HG0.out (by decide) (by decide)); have HT7 := Lib.hid (HT6.out.trans h3); clear bx; have bx := cell_of_row _ _ 0 _ _ _ HG7.out; clear h2 h3)
   rcases srun_app l n [.rule .r_block] [.word ⟨#[59]⟩] i7 d7 out7 r HR7.out with ⟨er, jj, rfl, h8⟩ | ⟨i8, d8, out8, h8, hr8⟩
   ·skip
    have HX8 := Lib.hid h8
    have HC8 := Lib.hid (G_block n HNN.out W0 A c w7 p i7 d7 out7 ve7 _ HP7.out HX8.out)
    clear h8
    go_wp2_with (go_at_call 38; (with_reducible refine Calls.mono HC8.out ?_); rintro e w8 ⟨rfl, ve8, h3⟩; have HS8 := Lib.hid (HS7.out.trans h3); clear h3)
    exact ⟨rfl, rfl, ve8, HS8.out⟩
   have HR8 := Lib.hid hr8
   clear hr8
   have HX8 := Lib.hid h8
   have HC8 := Lib.hid (G_block n HNN.out W0 A c w7 p i7 d7 out7 ve7 _ HP7.out HX8.out)
   clear h8
   go_wp2_with (go_at_call 38; (with_reducible refine Calls.mono HC8.out ?_); rintro e w8 ⟨rfl, ve8, h2, h3⟩; have HP8 := Lib.hid h2; have HS8 := Lib.hid (HS7.out.trans h3); have HG8 := Lib.hid (mkeep (HT7.out.trans h3) HP0.out HG0.out (by decide) (by decide)); have HT8 := Lib.hid (HT7.out.trans h3); clear bx; have bx := cell_of_row _ _ 0 _ _ _ HG8.out; clear h2 h3)
   have h9 := HR8.out
   cases r with
   | ok i9 d9 out9 =>
    have HX9 := Lib.hid h9
    have HC9 := Lib.hid (words_new HP8.out [⟨#[59]⟩] 1 [.string ⟨#[59]⟩] rfl rfl (by decide) (by decide) HX9.out)
    clear h9
    go_wp2_with (go_at_call 36; (with_reducible refine Calls.mono HC9.out ?_); rintro e w9 ⟨rfl, ve9, h2, h3⟩; have HP9 := Lib.hid h2; have HS9 := Lib.hid (HS8.out.trans h3); have HG9 := Lib.hid (mkeep (HT8.out.trans h3) HP0.out HG0.out (by decide) (by decide)); have HT9 := Lib.hid (HT8.out.trans h3); clear bx; have bx := cell_of_row _ _ 0 _ _ _ HG9.out; clear h2 h3)
    go_end0
    exact ⟨rfl, ve9, HP9.out, HS9.out⟩
   | err er jj =>
    have HX9 := Lib.hid h9
    have HC9 := Lib.hid (words_new HP8.out [⟨#[59]⟩] 1 [.string ⟨#[59]⟩] rfl rfl (by decide) (by decide) HX9.out)
    clear h9
    go_wp2_with (go_at_call 36; (with_reducible refine Calls.mono HC9.out ?_); rintro e w9 ⟨rfl, ve9, h3⟩; have HS9 := Lib.hid (HS8.out.trans h3); clear h3)
    exact ⟨rfl, rfl, ve9, HS9.out⟩
  ·have hin4 : inL (cAt l i2) [⟨#[58]⟩] = false := by simpa using hin4'
   clear hin4'
   have hr4 : srun l n ⟨([.word ⟨#[59]⟩] ++ ([.rule .r_block] ++ [.word ⟨#[59]⟩])), i2, d2, out2⟩ = some r := if_no (no_typed hin4) HR3.out
   have HR4 := Lib.hid hr4
   clear hr4
   have HI4 := Lib.hid hin4
   have HC4 := Lib.hid ((by have h := is_new HP3.out [⟨#[58]⟩] 1 [.string ⟨#[58]⟩] rfl rfl (by decide) (by decide); rw [HI4.out] at h; exact h))
   clear hin4
   go_wp2_with (go_at_call 47; (with_reducible refine Calls.mono HC4.out ?_); rintro e w4 ⟨rfl, hb⟩; have h3 : MStep p ve2 w3 ve2 w4 := PStep.below hb; have HP4 := Lib.hid (HP3.out.moved hb); have HS4 := Lib.hid (HS3.out.trans h3); have HG4 := Lib.hid (mkeep (HT3.out.trans h3) HP0.out HG0.out (by decide) (by decide)); have HT4 := Lib.hid (HT3.out.trans h3); clear bx; have bx := cell_of_row _ _ 0 _ _ _ HG4.out; clear hb h3)
   rcases srun_app l n [.word ⟨#[59]⟩] ([.rule .r_block] ++ [.word ⟨#[59]⟩]) i2 d2 out2 r HR4.out with ⟨er, jj, rfl, h5⟩ | ⟨i5, d5, out5, h5, hr5⟩
   ·skip
    have HX5 := Lib.hid h5
    have HC5 := Lib.hid (words_new HP4.out [⟨#[59]⟩] 1 [.string ⟨#[59]⟩] rfl rfl (by decide) (by decide) HX5.out)
    clear h5
    go_wp2_with (go_at_call 36; (with_reducible refine Calls.mono HC5.out ?_); rintro e w5 ⟨rfl, ve5, h3⟩; have HS5 := Lib.hid (HS4.out.trans h3); clear h3)
    exact ⟨rfl, rfl, ve5, HS5.out⟩
   have HR5 := Lib.hid hr5
   clear hr5
   have HX5 := Lib.hid h5
   have HC5 := Lib.hid (words_new HP4.out [⟨#[59]⟩] 1 [.string ⟨#[59]⟩] rfl rfl (by decide) (by decide) HX5.out)
   clear h5
   go_wp2_with (go_at_call 36; (with_reducible refine Calls.mono HC5.out ?_); rintro e w5 ⟨rfl, ve5, h2, h3⟩; have HP5 := Lib.hid h2; have HS5 := Lib.hid (HS4.out.trans h3); have HG5 := Lib.hid (mkeep (HT4.out.trans h3) HP0.out HG0.out (by decide) (by decide)); have HT5 := Lib.hid (HT4.out.trans h3); clear bx; have bx := cell_of_row _ _ 0 _ _ _ HG5.out; clear h2 h3)
   rcases srun_app l n [.rule .r_block] [.word ⟨#[59]⟩] i5 d5 out5 r HR5.out with ⟨er, jj, rfl, h6⟩ | ⟨i6, d6, out6, h6, hr6⟩
   ·skip
    have HX6 := Lib.hid h6
    have HC6 := Lib.hid (G_block n HNN.out W0 A c w5 p i5 d5 out5 ve5 _ HP5.out HX6.out)
    clear h6
    go_wp2_with (go_at_call 38; (with_reducible refine Calls.mono HC6.out ?_); rintro e w6 ⟨rfl, ve6, h3⟩; have HS6 := Lib.hid (HS5.out.trans h3); clear h3)
    exact ⟨rfl, rfl, ve6, HS6.out⟩
   have HR6 := Lib.hid hr6
   clear hr6
   have HX6 := Lib.hid h6
   have HC6 := Lib.hid (G_block n HNN.out W0 A c w5 p i5 d5 out5 ve5 _ HP5.out HX6.out)
   clear h6
   go_wp2_with (go_at_call 38; (with_reducible refine Calls.mono HC6.out ?_); rintro e w6 ⟨rfl, ve6, h2, h3⟩; have HP6 := Lib.hid h2; have HS6 := Lib.hid (HS5.out.trans h3); have HG6 := Lib.hid (mkeep (HT5.out.trans h3) HP0.out HG0.out (by decide) (by decide)); have HT6 := Lib.hid (HT5.out.trans h3); clear bx; have bx := cell_of_row _ _ 0 _ _ _ HG6.out; clear h2 h3)
   have h7 := HR6.out
   cases r with
   | ok i7 d7 out7 =>
    have HX7 := Lib.hid h7
    have HC7 := Lib.hid (words_new HP6.out [⟨#[59]⟩] 1 [.string ⟨#[59]⟩] rfl rfl (by decide) (by decide) HX7.out)
    clear h7
    go_wp2_with (go_at_call 36; (with_reducible refine Calls.mono HC7.out ?_); rintro e w7 ⟨rfl, ve7, h2, h3⟩; have HP7 := Lib.hid h2; have HS7 := Lib.hid (HS6.out.trans h3); have HG7 := Lib.hid (mkeep (HT6.out.trans h3) HP0.out HG0.out (by decide) (by decide)); have HT7 := Lib.hid (HT6.out.trans h3); clear bx; have bx := cell_of_row _ _ 0 _ _ _ HG7.out; clear h2 h3)
    go_end0
    exact ⟨rfl, ve7, HP7.out, HS7.out⟩
   | err er jj =>
    have HX7 := Lib.hid h7
    have HC7 := Lib.hid (words_new HP6.out [⟨#[59]⟩] 1 [.string ⟨#[59]⟩] rfl rfl (by decide) (by decide) HX7.out)
    clear h7
    go_wp2_with (go_at_call 36; (with_reducible refine Calls.mono HC7.out ?_); rintro e w7 ⟨rfl, ve7, h3⟩; have HS7 := Lib.hid (HS6.out.trans h3); clear h3)
    exact ⟨rfl, rfl, ve7, HS7.out⟩
end Go.Proofs.YtmjbpgnjgblnmaaGreat
namespace Go.Proofs.YtmjbpgnjgblnmaaGreat
open Go.RowKit Go.Proofs.YtmjbpgnjgblnmaaGreatW.PrintWords Go.Proofs.YtmjbpgnjgblnmaaGreatW.PrintLast Go.Proofs.YtmjbpgnjgblnmaaGreatW.PrintMore
set_option maxRecDepth 100000 in
set_option maxHeartbeats 8000000 in
theorem g_kind (l : List Tk) (N : Nat) (G_name : Good l N 37 [.word ⟨#[64, 110, 97, 109, 101]⟩]) (G_kind_1 : GoodC l N 115 [.word ⟨#[97, 114, 114, 97, 121]⟩, .word ⟨#[91]⟩, .rule .r_expr, .word ⟨#[46, 46]⟩, .rule .r_expr, .word ⟨#[93]⟩, .word ⟨#[111, 102]⟩, .rule .r_kind]) (G_kind_2 : GoodC l N 116 [.word ⟨#[114, 101, 99, 111, 114, 100]⟩, .rule .r_member, .rule .r_members, .word ⟨#[101, 110, 100]⟩]) : Good l (N + 1) 89 [.rule .r_kind] := by
 intro n hn W0 A c w p i d out ve r H hr
 show Calls Tryz.prog 89 _ w _
 have HNN := Lib.hid hn
 have hr0 : srun l n ⟨[.rule .r_kind], i, d, out⟩ = some r := hr
 skip
 have HR0 := Lib.hid hr0
 clear hn hr hr0
 obtain ⟨w0, hw0⟩ : ∃ V, w.alloc (.cells #[.pointer (some ⟨p, 0, none⟩)] 54) = V := ⟨_, rfl⟩
 have hb0 : Below w.heap.size w w0 := by rw [← hw0]; exact (Below.refl _ w).alloc (Nat.le_refl _) _
 have hg : w0.heap[w.heap.size]? = some (.cells #[.pointer (some ⟨p, 0, none⟩)] 54 (0, 0)) := by rw [← hw0]; exact World.alloc_heap_new _ _
 have HWB := Lib.hid hw0
 have HP0 := Lib.hid (H.moved hb0)
 have HS0 := Lib.hid (PStep.below hb0 : MStep p ve w ve w0)
 have HT0 := Lib.hid (PStep.refl p (.slice none 0 0) ve w0)
 obtain ⟨g, hge⟩ : ∃ g, w.heap.size = g := ⟨_, rfl⟩
 rw [hge] at hg
 have HGE := Lib.hid hge
 have HG0 := Lib.hid hg
 have bx := cell_of_row _ _ 0 _ _ _ hg
 clear hw0 hb0 hg hge H
 go_enter Tryz.func89, Tryz.ntmps89
 go_upto_region 2 with (fail)
 rw [HWB.out, HGE.out]
 by_cases hin1' : inL (cAt l i) [⟨#[64, 110, 97, 109, 101]⟩] = true
 ·have hin1 := hin1'
  clear hin1'
  have HI1 := Lib.hid hin1
  have HC1 := Lib.hid ((by have h := of_new HP0.out [1] 1 [.int .u8 1] rfl rfl (by decide); rw [of_name] at h; rw [HI1.out] at h; exact h))
  clear hin1
  go_wp2_with (go_at_call 48; (with_reducible refine Calls.mono HC1.out ?_); rintro e w1 ⟨rfl, hb⟩; have h3 : MStep p ve w0 ve w1 := PStep.below hb; have HP1 := Lib.hid (HP0.out.moved hb); have HS1 := Lib.hid (HS0.out.trans h3); have HG1 := Lib.hid (mkeep (HT0.out.trans h3) HP0.out HG0.out (by decide) (by decide)); have HT1 := Lib.hid (HT0.out.trans h3); clear bx; have bx := cell_of_row _ _ 0 _ _ _ HG1.out; clear hb h3)
  have h2 := HR0.out
  cases r with
  | ok i2 d2 out2 =>
   have HX2 := Lib.hid h2
   have HC2 := Lib.hid (node_rule HP1.out 8 8 rfl (.func (.func 37) #[.pointer (some ⟨p, 0, none⟩)] #[]) 37 (.pointer (some ⟨p, 0, none⟩)) (.inl rfl) (fun w => enters_ Tryz.func37 (by kernel_rfl) rfl #[(.pointer (some ⟨p, 0, none⟩))] w) (T := [.word ⟨#[64, 110, 97, 109, 101]⟩]) (R := .r_kind) (by rw [one_of HI1.out]; rfl) (G_name.body) HNN.out HX2.out)
   clear h2
   go_wp2_with (go_at_call 33; (with_reducible refine Calls.mono HC2.out ?_); rintro e w2 ⟨rfl, ve2, h2, h3⟩; have HP2 := Lib.hid h2; have HS2 := Lib.hid (HS1.out.trans h3); have HG2 := Lib.hid (mkeep (HT1.out.trans h3) HP0.out HG0.out (by decide) (by decide)); have HT2 := Lib.hid (HT1.out.trans h3); clear bx; have bx := cell_of_row _ _ 0 _ _ _ HG2.out; clear h2 h3)
   go_end0
   exact ⟨rfl, ve2, HP2.out, HS2.out⟩
  | err er jj =>
   have HX2 := Lib.hid h2
   have HC2 := Lib.hid (node_rule HP1.out 8 8 rfl (.func (.func 37) #[.pointer (some ⟨p, 0, none⟩)] #[]) 37 (.pointer (some ⟨p, 0, none⟩)) (.inl rfl) (fun w => enters_ Tryz.func37 (by kernel_rfl) rfl #[(.pointer (some ⟨p, 0, none⟩))] w) (T := [.word ⟨#[64, 110, 97, 109, 101]⟩]) (R := .r_kind) (by rw [one_of HI1.out]; rfl) (G_name.body) HNN.out HX2.out)
   clear h2
   go_wp2_with (go_at_call 33; (with_reducible refine Calls.mono HC2.out ?_); rintro e w2 ⟨rfl, ve2, h3⟩; have HS2 := Lib.hid (HS1.out.trans h3); clear h3)
   exact ⟨rfl, rfl, ve2, HS2.out⟩
 have hin1 : inL (cAt l i) [⟨#[64, 110, 97, 109, 101]⟩] = false := by simpa using hin1'
 clear hin1'
 have HI1 := Lib.hid hin1
 have HC1 := Lib.hid ((by have h := of_new HP0.out [1] 1 [.int .u8 1] rfl rfl (by decide); rw [of_name] at h; rw [HI1.out] at h; exact h))
 clear hin1
 go_wp2_with (go_at_call 48; (with_reducible refine Calls.mono HC1.out ?_); rintro e w1 ⟨rfl, hb⟩; have h3 : MStep p ve w0 ve w1 := PStep.below hb; have HP1 := Lib.hid (HP0.out.moved hb); have HS1 := Lib.hid (HS0.out.trans h3); have HG1 := Lib.hid (mkeep (HT0.out.trans h3) HP0.out HG0.out (by decide) (by decide)); have HT1 := Lib.hid (HT0.out.trans h3); clear bx; have bx := cell_of_row _ _ 0 _ _ _ HG1.out; clear hb h3)
 by_cases hin2' : inL (cAt l i) [⟨#[97, 114, 114, 97, 121]⟩] = true
 ·have hin2 := hin2'
  clear hin2'
  have HI2 := Lib.hid hin2
  have HC2 := Lib.hid ((by have h := is_new HP1.out [⟨#[97, 114, 114, 97, 121]⟩] 1 [.string ⟨#[97, 114, 114, 97, 121]⟩] rfl rfl (by decide) (by decide); rw [HI2.out] at h; exact h))
  clear hin2
  go_wp2_with (go_at_call 47; (with_reducible refine Calls.mono HC2.out ?_); rintro e w2 ⟨rfl, hb⟩; have h3 : MStep p ve w1 ve w2 := PStep.below hb; have HP2 := Lib.hid (HP1.out.moved hb); have HS2 := Lib.hid (HS1.out.trans h3); have HG2 := Lib.hid (mkeep (HT1.out.trans h3) HP0.out HG0.out (by decide) (by decide)); have HT2 := Lib.hid (HT1.out.trans h3); clear bx; have bx := cell_of_row _ _ 0 _ _ _ HG2.out; clear hb h3)
  have h3 := HR0.out
  cases r with
  | ok i3 d3 out3 =>
   have HX3 := Lib.hid h3
   have HC3 := Lib.hid (node_rule HP2.out 9 9 rfl (.func (.func 115) #[] #[.pointer (some ⟨g, 0, none⟩)]) 115 (.pointer (some ⟨g, 0, none⟩)) (.inr rfl) (fun w => enters_ Tryz.func115 (by kernel_rfl) rfl #[(.pointer (some ⟨g, 0, none⟩))] w) (T := [.word ⟨#[97, 114, 114, 97, 121]⟩, .word ⟨#[91]⟩, .rule .r_expr, .word ⟨#[46, 46]⟩, .rule .r_expr, .word ⟨#[93]⟩, .word ⟨#[111, 102]⟩, .rule .r_kind]) (R := .r_kind) (by rw [one_of HI2.out]; rfl) (G_kind_1.body HP2.out HG2.out) HNN.out HX3.out)
   clear h3
   go_wp2_with (go_at_call 33; (with_reducible refine Calls.mono HC3.out ?_); rintro e w3 ⟨rfl, ve3, h2, h3⟩; have HP3 := Lib.hid h2; have HS3 := Lib.hid (HS2.out.trans h3); have HG3 := Lib.hid (mkeep (HT2.out.trans h3) HP0.out HG0.out (by decide) (by decide)); have HT3 := Lib.hid (HT2.out.trans h3); clear bx; have bx := cell_of_row _ _ 0 _ _ _ HG3.out; clear h2 h3)
   go_end0
   exact ⟨rfl, ve3, HP3.out, HS3.out⟩
  | err er jj =>
   have HX3 := Lib.hid h3
   have HC3 := Lib.hid (node_rule HP2.out 9 9 rfl (.func (.func 115) #[] #[.pointer (some ⟨g, 0, none⟩)]) 115 (.pointer (some ⟨g, 0, none⟩)) (.inr rfl) (fun w => enters_ Tryz.func115 (by kernel_rfl) rfl #[(.pointer (some ⟨g, 0, none⟩))] w) (T := [.word ⟨#[97, 114, 114, 97, 121]⟩, .word ⟨#[91]⟩, .rule .r_expr, .word ⟨#[46, 46]⟩, .rule .r_expr, .word ⟨#[93]⟩, .word ⟨#[111, 102]⟩, .rule .r_kind]) (R := .r_kind) (by rw [one_of HI2.out]; rfl) (G_kind_1.body HP2.out HG2.out) HNN.out HX3.out)
   clear h3
   go_wp2_with (go_at_call 33; (with_reducible refine Calls.mono HC3.out ?_); rintro e w3 ⟨rfl, ve3, h3⟩; have HS3 := Lib.hid (HS2.out.trans h3); clear h3)
   exact ⟨rfl, rfl, ve3, HS3.out⟩
 have hin2 : inL (cAt l i) [⟨#[97, 114, 114, 97, 121]⟩] = false := by simpa using hin2'
 clear hin2'
 have HI2 := Lib.hid hin2
 have HC2 := Lib.hid ((by have h := is_new HP1.out [⟨#[97, 114, 114, 97, 121]⟩] 1 [.string ⟨#[97, 114, 114, 97, 121]⟩] rfl rfl (by decide) (by decide); rw [HI2.out] at h; exact h))
 clear hin2
 go_wp2_with (go_at_call 47; (with_reducible refine Calls.mono HC2.out ?_); rintro e w2 ⟨rfl, hb⟩; have h3 : MStep p ve w1 ve w2 := PStep.below hb; have HP2 := Lib.hid (HP1.out.moved hb); have HS2 := Lib.hid (HS1.out.trans h3); have HG2 := Lib.hid (mkeep (HT1.out.trans h3) HP0.out HG0.out (by decide) (by decide)); have HT2 := Lib.hid (HT1.out.trans h3); clear bx; have bx := cell_of_row _ _ 0 _ _ _ HG2.out; clear hb h3)
 by_cases hin3' : inL (cAt l i) [⟨#[114, 101, 99, 111, 114, 100]⟩] = true
 ·have hin3 := hin3'
  clear hin3'
  have HI3 := Lib.hid hin3
  have HC3 := Lib.hid ((by have h := is_new HP2.out [⟨#[114, 101, 99, 111, 114, 100]⟩] 1 [.string ⟨#[114, 101, 99, 111, 114, 100]⟩] rfl rfl (by decide) (by decide); rw [HI3.out] at h; exact h))
  clear hin3
  go_wp2_with (go_at_call 47; (with_reducible refine Calls.mono HC3.out ?_); rintro e w3 ⟨rfl, hb⟩; have h3 : MStep p ve w2 ve w3 := PStep.below hb; have HP3 := Lib.hid (HP2.out.moved hb); have HS3 := Lib.hid (HS2.out.trans h3); have HG3 := Lib.hid (mkeep (HT2.out.trans h3) HP0.out HG0.out (by decide) (by decide)); have HT3 := Lib.hid (HT2.out.trans h3); clear bx; have bx := cell_of_row _ _ 0 _ _ _ HG3.out; clear hb h3)
  have h4 := HR0.out
  cases r with
  | ok i4 d4 out4 =>
   have HX4 := Lib.hid h4
   have HC4 := Lib.hid (node_rule HP3.out 10 10 rfl (.func (.func 116) #[] #[.pointer (some ⟨g, 0, none⟩)]) 116 (.pointer (some ⟨g, 0, none⟩)) (.inr rfl) (fun w => enters_ Tryz.func116 (by kernel_rfl) rfl #[(.pointer (some ⟨g, 0, none⟩))] w) (T := [.word ⟨#[114, 101, 99, 111, 114, 100]⟩, .rule .r_member, .rule .r_members, .word ⟨#[101, 110, 100]⟩]) (R := .r_kind) (by rw [one_of HI3.out]; rfl) (G_kind_2.body HP3.out HG3.out) HNN.out HX4.out)
   clear h4
   go_wp2_with (go_at_call 33; (with_reducible refine Calls.mono HC4.out ?_); rintro e w4 ⟨rfl, ve4, h2, h3⟩; have HP4 := Lib.hid h2; have HS4 := Lib.hid (HS3.out.trans h3); have HG4 := Lib.hid (mkeep (HT3.out.trans h3) HP0.out HG0.out (by decide) (by decide)); have HT4 := Lib.hid (HT3.out.trans h3); clear bx; have bx := cell_of_row _ _ 0 _ _ _ HG4.out; clear h2 h3)
   go_end0
   exact ⟨rfl, ve4, HP4.out, HS4.out⟩
  | err er jj =>
   have HX4 := Lib.hid h4
   have HC4 := Lib.hid (node_rule HP3.out 10 10 rfl (.func (.func 116) #[] #[.pointer (some ⟨g, 0, none⟩)]) 116 (.pointer (some ⟨g, 0, none⟩)) (.inr rfl) (fun w => enters_ Tryz.func116 (by kernel_rfl) rfl #[(.pointer (some ⟨g, 0, none⟩))] w) (T := [.word ⟨#[114, 101, 99, 111, 114, 100]⟩, .rule .r_member, .rule .r_members, .word ⟨#[101, 110, 100]⟩]) (R := .r_kind) (by rw [one_of HI3.out]; rfl) (G_kind_2.body HP3.out HG3.out) HNN.out HX4.out)
   clear h4
   go_wp2_with (go_at_call 33; (with_reducible refine Calls.mono HC4.out ?_); rintro e w4 ⟨rfl, ve4, h3⟩; have HS4 := Lib.hid (HS3.out.trans h3); clear h3)
   exact ⟨rfl, rfl, ve4, HS4.out⟩
 have hin3 : inL (cAt l i) [⟨#[114, 101, 99, 111, 114, 100]⟩] = false := by simpa using hin3'
 clear hin3'
 have HI3 := Lib.hid hin3
 have HC3 := Lib.hid ((by have h := is_new HP2.out [⟨#[114, 101, 99, 111, 114, 100]⟩] 1 [.string ⟨#[114, 101, 99, 111, 114, 100]⟩] rfl rfl (by decide) (by decide); rw [HI3.out] at h; exact h))
 clear hin3
 go_wp2_with (go_at_call 47; (with_reducible refine Calls.mono HC3.out ?_); rintro e w3 ⟨rfl, hb⟩; have h3 : MStep p ve w2 ve w3 := PStep.below hb; have HP3 := Lib.hid (HP2.out.moved hb); have HS3 := Lib.hid (HS2.out.trans h3); have HG3 := Lib.hid (mkeep (HT2.out.trans h3) HP0.out HG0.out (by decide) (by decide)); have HT3 := Lib.hid (HT2.out.trans h3); clear bx; have bx := cell_of_row _ _ 0 _ _ _ HG3.out; clear hb h3)
 have h4 := HR0.out
 obtain ⟨_, hre⟩ := srun_fin HR0.out (q := .err (if i = l.length then 121 else 120) i) (by simp [sstep, (show RId.expand .r_kind (cAt l i) = none by simp only [RId.expand]; rw [if_neg (none_of HI1.out _ List.mem_cons_self), if_neg (none_of HI2.out _ List.mem_cons_self), if_neg (none_of HI3.out _ List.mem_cons_self)])])
 cases r with
 | ok i4 d4 out4 => cases hre
 | err er jj =>
  clear hre
  have HX4 := Lib.hid h4
  have HC4 := Lib.hid (fail_post HP3.out (show RId.expand .r_kind (cAt l i) = none by simp only [RId.expand]; rw [if_neg (none_of HI1.out _ List.mem_cons_self), if_neg (none_of HI2.out _ List.mem_cons_self), if_neg (none_of HI3.out _ List.mem_cons_self)]) HX4.out)
  clear h4
  go_wp2_with (go_at_call 39; (with_reducible refine Calls.mono HC4.out ?_); rintro e w4 ⟨rfl, ve4, h3⟩; have HS4 := Lib.hid (HS3.out.trans h3); clear h3)
  exact ⟨rfl, rfl, ve4, HS4.out⟩
end Go.Proofs.YtmjbpgnjgblnmaaGreat
namespace Go.Proofs.YtmjbpgnjgblnmaaGreat
open Go.RowKit Go.Proofs.YtmjbpgnjgblnmaaGreatW.PrintWords Go.Proofs.YtmjbpgnjgblnmaaGreatW.PrintLast Go.Proofs.YtmjbpgnjgblnmaaGreatW.PrintMore
theorem of3 {cc : ByteArray} (h : inL cc [⟨#[64, 110, 117, 109, 98, 101, 114]⟩, ⟨#[64, 116, 101, 120, 116]⟩, ⟨#[64, 99, 104, 97, 114]⟩] = true) : cc = ⟨#[64, 110, 117, 109, 98, 101, 114]⟩ ∨ cc = ⟨#[64, 116, 101, 120, 116]⟩ ∨ cc = ⟨#[64, 99, 104, 97, 114]⟩ := by simpa using (inL_iff _ _).1 h
theorem no3 {cc : ByteArray} (h : inL cc [⟨#[64, 110, 117, 109, 98, 101, 114]⟩, ⟨#[64, 116, 101, 120, 116]⟩, ⟨#[64, 99, 104, 97, 114]⟩] = false) : ¬ (cc = ⟨#[64, 110, 117, 109, 98, 101, 114]⟩ ∨ cc = ⟨#[64, 116, 101, 120, 116]⟩ ∨ cc = ⟨#[64, 99, 104, 97, 114]⟩) := fun hc => by
 rw [(inL_iff cc [⟨#[64, 110, 117, 109, 98, 101, 114]⟩, ⟨#[64, 116, 101, 120, 116]⟩, ⟨#[64, 99, 104, 97, 114]⟩]).2 (by simpa using hc)] at h
 cases h
set_option maxRecDepth 100000 in
set_option maxHeartbeats 8000000 in
theorem take_in2 {l : List Tk} {i : Nat} {ws : List ByteArray} (hw : inL ⟨#[]⟩ ws = false) (h : inL (cAt l i) ws = true) : (∃ t, l[i]? = some t ∧ codeOf t = cAt l i) ↔ true = true := by
 refine ⟨fun _ => rfl, fun _ => ?_⟩
 cases hg : l[i]? with
 | none =>
  rw [show cAt l i = ⟨#[]⟩ by unfold cAt; rw [hg], hw] at h
  cases h
 | some t => exact ⟨t, rfl, (cAt_some hg).symm⟩
set_option maxRecDepth 100000 in
theorem g_factor_4 {W0 : World} {A : Option Addr} {c : Nat} {l : List Tk} {w : World} {p g : Nat} {i : Nat} {d : Int} {out : List Ev} {ve : Value} (H : SAt W0 A c l w p i d out ve) (hg : w.heap[g]? = some (.cells #[.pointer (some ⟨p, 0, none⟩)] 54 (0, 0))) (hin : inL (cAt l i) [⟨#[64, 110, 117, 109, 98, 101, 114]⟩, ⟨#[64, 116, 101, 120, 116]⟩, ⟨#[64, 99, 104, 97, 114]⟩] = true) {n : Nat} {r : SRes} (hr : srun l n ⟨[.word (cAt l i)], i, d, out⟩ = some r) :
  Calls Tryz.prog 152 #[.pointer (some ⟨g, 0, none⟩)] w (SPost W0 A c l p ve w r) := by
 have HTK := Lib.hid (take_word H (cAt l i) [] (take_in2 (by decide) hin) hr)
 have bx := cell_of_row _ _ 0 _ _ _ hg
 clear H hg hin hr
 cases r with
 | ok i2 d2 out2 =>
  go_enter Tryz.func152, Tryz.ntmps152
  go_wp2_with (go_at_call 46; (with_reducible refine Calls.mono HTK.out ?_); rintro e w2 ⟨rfl, ve2, h2, h3⟩; have HP2 := Lib.hid h2; have HS2 := Lib.hid h3; clear h2 h3)
  go_end0
  exact ⟨rfl, ve2, HP2.out, HS2.out⟩
 | err er i2 =>
  go_enter Tryz.func152, Tryz.ntmps152
  go_wp2_with (go_at_call 46; (with_reducible refine Calls.mono HTK.out ?_); rintro e w2 ⟨rfl, ve2, h3⟩; have HS2 := Lib.hid h3; clear h3)
  exact ⟨rfl, rfl, ve2, HS2.out⟩
set_option maxRecDepth 100000 in
set_option maxHeartbeats 8000000 in
theorem g_factor (l : List Tk) (N : Nat) (G_factor_1 : GoodC l N 149 [.word ⟨#[45]⟩, .rule .r_factor]) (G_factor_2 : GoodC l N 150 [.word ⟨#[110, 111, 116]⟩, .rule .r_factor]) (G_factor_3 : GoodC l N 151 [.word ⟨#[40]⟩, .rule .r_expr, .word ⟨#[41]⟩]) (G_object : Good l (N + 1) 96 [.rule .r_object]) : Good l (N + 1) 145 [.rule .r_factor] := by
 intro n hn W0 A c w p i d out ve r H hr
 show Calls Tryz.prog 145 _ w _
 have HNN := Lib.hid hn
 have hr0 : srun l n ⟨[.rule .r_factor], i, d, out⟩ = some r := hr
 skip
 have HR0 := Lib.hid hr0
 clear hn hr hr0
 obtain ⟨w0, hw0⟩ : ∃ V, w.alloc (.cells #[.pointer (some ⟨p, 0, none⟩)] 54) = V := ⟨_, rfl⟩
 have hb0 : Below w.heap.size w w0 := by rw [← hw0]; exact (Below.refl _ w).alloc (Nat.le_refl _) _
 have hg : w0.heap[w.heap.size]? = some (.cells #[.pointer (some ⟨p, 0, none⟩)] 54 (0, 0)) := by rw [← hw0]; exact World.alloc_heap_new _ _
 have HWB := Lib.hid hw0
 have HP0 := Lib.hid (H.moved hb0)
 have HS0 := Lib.hid (PStep.below hb0 : MStep p ve w ve w0)
 have HT0 := Lib.hid (PStep.refl p (.slice none 0 0) ve w0)
 obtain ⟨g, hge⟩ : ∃ g, w.heap.size = g := ⟨_, rfl⟩
 rw [hge] at hg
 have HGE := Lib.hid hge
 have HG0 := Lib.hid hg
 have bx := cell_of_row _ _ 0 _ _ _ hg
 clear hw0 hb0 hg hge H
 go_enter Tryz.func145, Tryz.ntmps145
 go_upto_region 2 with (fail)
 rw [HWB.out, HGE.out]
 by_cases hin1' : inL (cAt l i) [⟨#[45]⟩] = true
 ·have hin1 := hin1'
  clear hin1'
  have HI1 := Lib.hid hin1
  have HC1 := Lib.hid ((by have h := is_new HP0.out [⟨#[45]⟩] 1 [.string ⟨#[45]⟩] rfl rfl (by decide) (by decide); rw [HI1.out] at h; exact h))
  clear hin1
  go_wp2_with (go_at_call 47; (with_reducible refine Calls.mono HC1.out ?_); rintro e w1 ⟨rfl, hb⟩; have h3 : MStep p ve w0 ve w1 := PStep.below hb; have HP1 := Lib.hid (HP0.out.moved hb); have HS1 := Lib.hid (HS0.out.trans h3); have HG1 := Lib.hid (mkeep (HT0.out.trans h3) HP0.out HG0.out (by decide) (by decide)); have HT1 := Lib.hid (HT0.out.trans h3); clear bx; have bx := cell_of_row _ _ 0 _ _ _ HG1.out; clear hb h3)
  have h2 := HR0.out
  cases r with
  | ok i2 d2 out2 =>
   have HX2 := Lib.hid h2
   have HC2 := Lib.hid (node_rule HP1.out 25 25 rfl (.func (.func 149) #[] #[.pointer (some ⟨g, 0, none⟩)]) 149 (.pointer (some ⟨g, 0, none⟩)) (.inr rfl) (fun w => enters_ Tryz.func149 (by kernel_rfl) rfl #[(.pointer (some ⟨g, 0, none⟩))] w) (T := [.word ⟨#[45]⟩, .rule .r_factor]) (R := .r_factor) (by rw [one_of HI1.out]; rfl) (G_factor_1.body HP1.out HG1.out) HNN.out HX2.out)
   clear h2
   go_wp2_with (go_at_call 33; (with_reducible refine Calls.mono HC2.out ?_); rintro e w2 ⟨rfl, ve2, h2, h3⟩; have HP2 := Lib.hid h2; have HS2 := Lib.hid (HS1.out.trans h3); have HG2 := Lib.hid (mkeep (HT1.out.trans h3) HP0.out HG0.out (by decide) (by decide)); have HT2 := Lib.hid (HT1.out.trans h3); clear bx; have bx := cell_of_row _ _ 0 _ _ _ HG2.out; clear h2 h3)
   go_end0
   exact ⟨rfl, ve2, HP2.out, HS2.out⟩
  | err er jj =>
   have HX2 := Lib.hid h2
   have HC2 := Lib.hid (node_rule HP1.out 25 25 rfl (.func (.func 149) #[] #[.pointer (some ⟨g, 0, none⟩)]) 149 (.pointer (some ⟨g, 0, none⟩)) (.inr rfl) (fun w => enters_ Tryz.func149 (by kernel_rfl) rfl #[(.pointer (some ⟨g, 0, none⟩))] w) (T := [.word ⟨#[45]⟩, .rule .r_factor]) (R := .r_factor) (by rw [one_of HI1.out]; rfl) (G_factor_1.body HP1.out HG1.out) HNN.out HX2.out)
   clear h2
   go_wp2_with (go_at_call 33; (with_reducible refine Calls.mono HC2.out ?_); rintro e w2 ⟨rfl, ve2, h3⟩; have HS2 := Lib.hid (HS1.out.trans h3); clear h3)
   exact ⟨rfl, rfl, ve2, HS2.out⟩
 have hin1 : inL (cAt l i) [⟨#[45]⟩] = false := by simpa using hin1'
 clear hin1'
 have HI1 := Lib.hid hin1
 have HC1 := Lib.hid ((by have h := is_new HP0.out [⟨#[45]⟩] 1 [.string ⟨#[45]⟩] rfl rfl (by decide) (by decide); rw [HI1.out] at h; exact h))
 clear hin1
 go_wp2_with (go_at_call 47; (with_reducible refine Calls.mono HC1.out ?_); rintro e w1 ⟨rfl, hb⟩; have h3 : MStep p ve w0 ve w1 := PStep.below hb; have HP1 := Lib.hid (HP0.out.moved hb); have HS1 := Lib.hid (HS0.out.trans h3); have HG1 := Lib.hid (mkeep (HT0.out.trans h3) HP0.out HG0.out (by decide) (by decide)); have HT1 := Lib.hid (HT0.out.trans h3); clear bx; have bx := cell_of_row _ _ 0 _ _ _ HG1.out; clear hb h3)
 by_cases hin2' : inL (cAt l i) [⟨#[110, 111, 116]⟩] = true
 ·have hin2 := hin2'
  clear hin2'
  have HI2 := Lib.hid hin2
  have HC2 := Lib.hid ((by have h := is_new HP1.out [⟨#[110, 111, 116]⟩] 1 [.string ⟨#[110, 111, 116]⟩] rfl rfl (by decide) (by decide); rw [HI2.out] at h; exact h))
  clear hin2
  go_wp2_with (go_at_call 47; (with_reducible refine Calls.mono HC2.out ?_); rintro e w2 ⟨rfl, hb⟩; have h3 : MStep p ve w1 ve w2 := PStep.below hb; have HP2 := Lib.hid (HP1.out.moved hb); have HS2 := Lib.hid (HS1.out.trans h3); have HG2 := Lib.hid (mkeep (HT1.out.trans h3) HP0.out HG0.out (by decide) (by decide)); have HT2 := Lib.hid (HT1.out.trans h3); clear bx; have bx := cell_of_row _ _ 0 _ _ _ HG2.out; clear hb h3)
  have h3 := HR0.out
  cases r with
  | ok i3 d3 out3 =>
   have HX3 := Lib.hid h3
   have HC3 := Lib.hid (node_rule HP2.out 26 26 rfl (.func (.func 150) #[] #[.pointer (some ⟨g, 0, none⟩)]) 150 (.pointer (some ⟨g, 0, none⟩)) (.inr rfl) (fun w => enters_ Tryz.func150 (by kernel_rfl) rfl #[(.pointer (some ⟨g, 0, none⟩))] w) (T := [.word ⟨#[110, 111, 116]⟩, .rule .r_factor]) (R := .r_factor) (by rw [one_of HI2.out]; rfl) (G_factor_2.body HP2.out HG2.out) HNN.out HX3.out)
   clear h3
   go_wp2_with (go_at_call 33; (with_reducible refine Calls.mono HC3.out ?_); rintro e w3 ⟨rfl, ve3, h2, h3⟩; have HP3 := Lib.hid h2; have HS3 := Lib.hid (HS2.out.trans h3); have HG3 := Lib.hid (mkeep (HT2.out.trans h3) HP0.out HG0.out (by decide) (by decide)); have HT3 := Lib.hid (HT2.out.trans h3); clear bx; have bx := cell_of_row _ _ 0 _ _ _ HG3.out; clear h2 h3)
   go_end0
   exact ⟨rfl, ve3, HP3.out, HS3.out⟩
  | err er jj =>
   have HX3 := Lib.hid h3
   have HC3 := Lib.hid (node_rule HP2.out 26 26 rfl (.func (.func 150) #[] #[.pointer (some ⟨g, 0, none⟩)]) 150 (.pointer (some ⟨g, 0, none⟩)) (.inr rfl) (fun w => enters_ Tryz.func150 (by kernel_rfl) rfl #[(.pointer (some ⟨g, 0, none⟩))] w) (T := [.word ⟨#[110, 111, 116]⟩, .rule .r_factor]) (R := .r_factor) (by rw [one_of HI2.out]; rfl) (G_factor_2.body HP2.out HG2.out) HNN.out HX3.out)
   clear h3
   go_wp2_with (go_at_call 33; (with_reducible refine Calls.mono HC3.out ?_); rintro e w3 ⟨rfl, ve3, h3⟩; have HS3 := Lib.hid (HS2.out.trans h3); clear h3)
   exact ⟨rfl, rfl, ve3, HS3.out⟩
 have hin2 : inL (cAt l i) [⟨#[110, 111, 116]⟩] = false := by simpa using hin2'
 clear hin2'
 have HI2 := Lib.hid hin2
 have HC2 := Lib.hid ((by have h := is_new HP1.out [⟨#[110, 111, 116]⟩] 1 [.string ⟨#[110, 111, 116]⟩] rfl rfl (by decide) (by decide); rw [HI2.out] at h; exact h))
 clear hin2
 go_wp2_with (go_at_call 47; (with_reducible refine Calls.mono HC2.out ?_); rintro e w2 ⟨rfl, hb⟩; have h3 : MStep p ve w1 ve w2 := PStep.below hb; have HP2 := Lib.hid (HP1.out.moved hb); have HS2 := Lib.hid (HS1.out.trans h3); have HG2 := Lib.hid (mkeep (HT1.out.trans h3) HP0.out HG0.out (by decide) (by decide)); have HT2 := Lib.hid (HT1.out.trans h3); clear bx; have bx := cell_of_row _ _ 0 _ _ _ HG2.out; clear hb h3)
 by_cases hin3' : inL (cAt l i) [⟨#[40]⟩] = true
 ·have hin3 := hin3'
  clear hin3'
  have HI3 := Lib.hid hin3
  have HC3 := Lib.hid ((by have h := is_new HP2.out [⟨#[40]⟩] 1 [.string ⟨#[40]⟩] rfl rfl (by decide) (by decide); rw [HI3.out] at h; exact h))
  clear hin3
  go_wp2_with (go_at_call 47; (with_reducible refine Calls.mono HC3.out ?_); rintro e w3 ⟨rfl, hb⟩; have h3 : MStep p ve w2 ve w3 := PStep.below hb; have HP3 := Lib.hid (HP2.out.moved hb); have HS3 := Lib.hid (HS2.out.trans h3); have HG3 := Lib.hid (mkeep (HT2.out.trans h3) HP0.out HG0.out (by decide) (by decide)); have HT3 := Lib.hid (HT2.out.trans h3); clear bx; have bx := cell_of_row _ _ 0 _ _ _ HG3.out; clear hb h3)
  have h4 := HR0.out
  cases r with
  | ok i4 d4 out4 =>
   have HX4 := Lib.hid h4
   have HC4 := Lib.hid (node_rule HP3.out 27 27 rfl (.func (.func 151) #[] #[.pointer (some ⟨g, 0, none⟩)]) 151 (.pointer (some ⟨g, 0, none⟩)) (.inr rfl) (fun w => enters_ Tryz.func151 (by kernel_rfl) rfl #[(.pointer (some ⟨g, 0, none⟩))] w) (T := [.word ⟨#[40]⟩, .rule .r_expr, .word ⟨#[41]⟩]) (R := .r_factor) (by rw [one_of HI3.out]; rfl) (G_factor_3.body HP3.out HG3.out) HNN.out HX4.out)
   clear h4
   go_wp2_with (go_at_call 33; (with_reducible refine Calls.mono HC4.out ?_); rintro e w4 ⟨rfl, ve4, h2, h3⟩; have HP4 := Lib.hid h2; have HS4 := Lib.hid (HS3.out.trans h3); have HG4 := Lib.hid (mkeep (HT3.out.trans h3) HP0.out HG0.out (by decide) (by decide)); have HT4 := Lib.hid (HT3.out.trans h3); clear bx; have bx := cell_of_row _ _ 0 _ _ _ HG4.out; clear h2 h3)
   go_end0
   exact ⟨rfl, ve4, HP4.out, HS4.out⟩
  | err er jj =>
   have HX4 := Lib.hid h4
   have HC4 := Lib.hid (node_rule HP3.out 27 27 rfl (.func (.func 151) #[] #[.pointer (some ⟨g, 0, none⟩)]) 151 (.pointer (some ⟨g, 0, none⟩)) (.inr rfl) (fun w => enters_ Tryz.func151 (by kernel_rfl) rfl #[(.pointer (some ⟨g, 0, none⟩))] w) (T := [.word ⟨#[40]⟩, .rule .r_expr, .word ⟨#[41]⟩]) (R := .r_factor) (by rw [one_of HI3.out]; rfl) (G_factor_3.body HP3.out HG3.out) HNN.out HX4.out)
   clear h4
   go_wp2_with (go_at_call 33; (with_reducible refine Calls.mono HC4.out ?_); rintro e w4 ⟨rfl, ve4, h3⟩; have HS4 := Lib.hid (HS3.out.trans h3); clear h3)
   exact ⟨rfl, rfl, ve4, HS4.out⟩
 have hin3 : inL (cAt l i) [⟨#[40]⟩] = false := by simpa using hin3'
 clear hin3'
 have HI3 := Lib.hid hin3
 have HC3 := Lib.hid ((by have h := is_new HP2.out [⟨#[40]⟩] 1 [.string ⟨#[40]⟩] rfl rfl (by decide) (by decide); rw [HI3.out] at h; exact h))
 clear hin3
 go_wp2_with (go_at_call 47; (with_reducible refine Calls.mono HC3.out ?_); rintro e w3 ⟨rfl, hb⟩; have h3 : MStep p ve w2 ve w3 := PStep.below hb; have HP3 := Lib.hid (HP2.out.moved hb); have HS3 := Lib.hid (HS2.out.trans h3); have HG3 := Lib.hid (mkeep (HT2.out.trans h3) HP0.out HG0.out (by decide) (by decide)); have HT3 := Lib.hid (HT2.out.trans h3); clear bx; have bx := cell_of_row _ _ 0 _ _ _ HG3.out; clear hb h3)
 by_cases hin4' : inL (cAt l i) [⟨#[64, 110, 117, 109, 98, 101, 114]⟩, ⟨#[64, 116, 101, 120, 116]⟩, ⟨#[64, 99, 104, 97, 114]⟩] = true
 ·have hin4 := hin4'
  clear hin4'
  have HI4 := Lib.hid hin4
  have HC4 := Lib.hid ((by have h := of_new HP3.out [3, 4, 5] 3 [.int .u8 3, .int .u8 4, .int .u8 5] rfl rfl (by decide); rw [of_value] at h; rw [HI4.out] at h; exact h))
  clear hin4
  go_wp2_with (go_at_call 48; (with_reducible refine Calls.mono HC4.out ?_); rintro e w4 ⟨rfl, hb⟩; have h3 : MStep p ve w3 ve w4 := PStep.below hb; have HP4 := Lib.hid (HP3.out.moved hb); have HS4 := Lib.hid (HS3.out.trans h3); have HG4 := Lib.hid (mkeep (HT3.out.trans h3) HP0.out HG0.out (by decide) (by decide)); have HT4 := Lib.hid (HT3.out.trans h3); clear bx; have bx := cell_of_row _ _ 0 _ _ _ HG4.out; clear hb h3)
  have h5 := HR0.out
  cases r with
  | ok i5 d5 out5 =>
   have HX5 := Lib.hid h5
   have HC5 := Lib.hid (node_rule_at HP4.out 32 32 rfl (.func (.func 152) #[] #[.pointer (some ⟨g, 0, none⟩)]) 152 (.pointer (some ⟨g, 0, none⟩)) (.inr rfl) (fun w => enters_ Tryz.func152 (by kernel_rfl) rfl #[(.pointer (some ⟨g, 0, none⟩))] w) (T := [.word (cAt l i)]) (R := .r_factor) (by rcases of3 HI4.out with hc | hc | hc <;> rw [hc] <;> rfl) (fun m w1 ve1 r' h1 h2 h3 => g_factor_4 h2 (mkeep h1 HP4.out HG4.out (by decide) (by decide)) HI4.out h3) HX5.out)
   clear h5
   go_wp2_with (go_at_call 33; (with_reducible refine Calls.mono HC5.out ?_); rintro e w5 ⟨rfl, ve5, h2, h3⟩; have HP5 := Lib.hid h2; have HS5 := Lib.hid (HS4.out.trans h3); have HG5 := Lib.hid (mkeep (HT4.out.trans h3) HP0.out HG0.out (by decide) (by decide)); have HT5 := Lib.hid (HT4.out.trans h3); clear bx; have bx := cell_of_row _ _ 0 _ _ _ HG5.out; clear h2 h3)
   go_end0
   exact ⟨rfl, ve5, HP5.out, HS5.out⟩
  | err er jj =>
   have HX5 := Lib.hid h5
   have HC5 := Lib.hid (node_rule_at HP4.out 32 32 rfl (.func (.func 152) #[] #[.pointer (some ⟨g, 0, none⟩)]) 152 (.pointer (some ⟨g, 0, none⟩)) (.inr rfl) (fun w => enters_ Tryz.func152 (by kernel_rfl) rfl #[(.pointer (some ⟨g, 0, none⟩))] w) (T := [.word (cAt l i)]) (R := .r_factor) (by rcases of3 HI4.out with hc | hc | hc <;> rw [hc] <;> rfl) (fun m w1 ve1 r' h1 h2 h3 => g_factor_4 h2 (mkeep h1 HP4.out HG4.out (by decide) (by decide)) HI4.out h3) HX5.out)
   clear h5
   go_wp2_with (go_at_call 33; (with_reducible refine Calls.mono HC5.out ?_); rintro e w5 ⟨rfl, ve5, h3⟩; have HS5 := Lib.hid (HS4.out.trans h3); clear h3)
   exact ⟨rfl, rfl, ve5, HS5.out⟩
 have hin4 : inL (cAt l i) [⟨#[64, 110, 117, 109, 98, 101, 114]⟩, ⟨#[64, 116, 101, 120, 116]⟩, ⟨#[64, 99, 104, 97, 114]⟩] = false := by simpa using hin4'
 clear hin4'
 have HI4 := Lib.hid hin4
 have HC4 := Lib.hid ((by have h := of_new HP3.out [3, 4, 5] 3 [.int .u8 3, .int .u8 4, .int .u8 5] rfl rfl (by decide); rw [of_value] at h; rw [HI4.out] at h; exact h))
 clear hin4
 go_wp2_with (go_at_call 48; (with_reducible refine Calls.mono HC4.out ?_); rintro e w4 ⟨rfl, hb⟩; have h3 : MStep p ve w3 ve w4 := PStep.below hb; have HP4 := Lib.hid (HP3.out.moved hb); have HS4 := Lib.hid (HS3.out.trans h3); have HG4 := Lib.hid (mkeep (HT3.out.trans h3) HP0.out HG0.out (by decide) (by decide)); have HT4 := Lib.hid (HT3.out.trans h3); clear bx; have bx := cell_of_row _ _ 0 _ _ _ HG4.out; clear hb h3)
 have h5 := HR0.out
 cases r with
 | ok i5 d5 out5 =>
  have HX5 := Lib.hid h5
  have HC5 := Lib.hid (G_object n HNN.out W0 A c w4 p i d out ve _ HP4.out (srun_same (R1 := .r_factor) (R2 := .r_object) (by simp only [RId.expand]; rw [if_neg (none_of HI1.out _ List.mem_cons_self), if_neg (none_of HI2.out _ List.mem_cons_self), if_neg (none_of HI3.out _ List.mem_cons_self), if_neg (no3 HI4.out)]) HX5.out))
  clear h5
  go_wp2_with (go_at_call 96; (with_reducible refine Calls.mono HC5.out ?_); rintro e w5 ⟨rfl, ve5, h2, h3⟩; have HP5 := Lib.hid h2; have HS5 := Lib.hid (HS4.out.trans h3); have HG5 := Lib.hid (mkeep (HT4.out.trans h3) HP0.out HG0.out (by decide) (by decide)); have HT5 := Lib.hid (HT4.out.trans h3); clear bx; have bx := cell_of_row _ _ 0 _ _ _ HG5.out; clear h2 h3)
  go_end0
  exact ⟨rfl, ve5, HP5.out, HS5.out⟩
 | err er jj =>
  have HX5 := Lib.hid h5
  have HC5 := Lib.hid (G_object n HNN.out W0 A c w4 p i d out ve _ HP4.out (srun_same (R1 := .r_factor) (R2 := .r_object) (by simp only [RId.expand]; rw [if_neg (none_of HI1.out _ List.mem_cons_self), if_neg (none_of HI2.out _ List.mem_cons_self), if_neg (none_of HI3.out _ List.mem_cons_self), if_neg (no3 HI4.out)]) HX5.out))
  clear h5
  go_wp2_with (go_at_call 96; (with_reducible refine Calls.mono HC5.out ?_); rintro e w5 ⟨rfl, ve5, h3⟩; have HS5 := Lib.hid (HS4.out.trans h3); clear h3)
  exact ⟨rfl, rfl, ve5, HS5.out⟩
end Go.Proofs.YtmjbpgnjgblnmaaGreat
namespace Go.Proofs.YtmjbpgnjgblnmaaGreat
open Go.RowKit Go.Proofs.YtmjbpgnjgblnmaaGreatW.PrintWords Go.Proofs.YtmjbpgnjgblnmaaGreatW.PrintLast Go.Proofs.YtmjbpgnjgblnmaaGreatW.PrintMore
theorem five_no {cc : ByteArray} (h0 : inL cc [⟨#[115, 107, 105, 112]⟩] = false) (h1 : inL cc [⟨#[64, 110, 97, 109, 101]⟩] = false) (h2 : inL cc [⟨#[105, 102]⟩] = false) (h3 : inL cc [⟨#[119, 104, 105, 108, 101]⟩] = false) (h4 : inL cc [⟨#[102, 111, 114]⟩] = false) : inL cc [⟨#[115, 107, 105, 112]⟩, ⟨#[64, 110, 97, 109, 101]⟩, ⟨#[105, 102]⟩, ⟨#[119, 104, 105, 108, 101]⟩, ⟨#[102, 111, 114]⟩] = false := by
 refine inL_no (fun hm => ?_)
 simp only [List.mem_cons, List.not_mem_nil, or_false] at hm
 rcases hm with hm | hm | hm | hm | hm
 ·exact none_of h0 _ List.mem_cons_self hm
 ·exact none_of h1 _ List.mem_cons_self hm
 ·exact none_of h2 _ List.mem_cons_self hm
 ·exact none_of h3 _ List.mem_cons_self hm
 ·exact none_of h4 _ List.mem_cons_self hm
set_option maxRecDepth 100000 in
set_option maxHeartbeats 8000000 in
theorem g_statement (l : List Tk) (N : Nat) (G_statement_1 : GoodC l N 94 [.word ⟨#[115, 107, 105, 112]⟩]) (G_statement_2 : GoodC l N 95 [.rule .r_object, .rule .r_assigned]) (G_choice : Good l N 97 [.word ⟨#[105, 102]⟩, .rule .r_expr, .word ⟨#[116, 104, 101, 110]⟩, .rule .r_body, .rule .r_elses, .word ⟨#[101, 110, 100]⟩]) (G_statement_3 : GoodC l N 98 [.word ⟨#[119, 104, 105, 108, 101]⟩, .rule .r_expr, .word ⟨#[100, 111]⟩, .rule .r_body, .word ⟨#[101, 110, 100]⟩]) (G_statement_4 : GoodC l N 99 [.word ⟨#[102, 111, 114]⟩, .word ⟨#[64, 110, 97, 109, 101]⟩, .word ⟨#[58, 61]⟩, .rule .r_expr, .word ⟨#[116, 111]⟩, .rule .r_expr, .word ⟨#[100, 111]⟩, .rule .r_body, .word ⟨#[101, 110, 100]⟩]) (G_other : ∀ n, n ≤ N + 1 → ∀ (W0 : World) (A : Option Addr) (c : Nat) (w : World) (p i : Nat) (d : Int) (out : List Ev) (ve : Value) (r : SRes), SAt W0 A c l w p i d out ve → srun l n ⟨[.rule .r_statement], i, d, out⟩ = some r → inL (cAt l i) [⟨#[115, 107, 105, 112]⟩, ⟨#[64, 110, 97, 109, 101]⟩, ⟨#[105, 102]⟩, ⟨#[119, 104, 105, 108, 101]⟩, ⟨#[102, 111, 114]⟩] = false → Calls Tryz.prog 100 #[.pointer (some ⟨p, 0, none⟩)] w (SPost W0 A c l p ve w r)) : Good l (N + 1) 69 [.rule .r_statement] := by
 intro n hn W0 A c w p i d out ve r H hr
 show Calls Tryz.prog 69 _ w _
 have HNN := Lib.hid hn
 have hr0 : srun l n ⟨[.rule .r_statement], i, d, out⟩ = some r := hr
 skip
 have HR0 := Lib.hid hr0
 clear hn hr hr0
 obtain ⟨w0, hw0⟩ : ∃ V, w.alloc (.cells #[.pointer (some ⟨p, 0, none⟩)] 54) = V := ⟨_, rfl⟩
 have hb0 : Below w.heap.size w w0 := by rw [← hw0]; exact (Below.refl _ w).alloc (Nat.le_refl _) _
 have hg : w0.heap[w.heap.size]? = some (.cells #[.pointer (some ⟨p, 0, none⟩)] 54 (0, 0)) := by rw [← hw0]; exact World.alloc_heap_new _ _
 have HWB := Lib.hid hw0
 have HP0 := Lib.hid (H.moved hb0)
 have HS0 := Lib.hid (PStep.below hb0 : MStep p ve w ve w0)
 have HT0 := Lib.hid (PStep.refl p (.slice none 0 0) ve w0)
 obtain ⟨g, hge⟩ : ∃ g, w.heap.size = g := ⟨_, rfl⟩
 rw [hge] at hg
 have HGE := Lib.hid hge
 have HG0 := Lib.hid hg
 have bx := cell_of_row _ _ 0 _ _ _ hg
 clear hw0 hb0 hg hge H
 go_enter Tryz.func69, Tryz.ntmps69
 go_upto_region 2 with (fail)
 rw [HWB.out, HGE.out]
 by_cases hin1' : inL (cAt l i) [⟨#[115, 107, 105, 112]⟩] = true
 ·have hin1 := hin1'
  clear hin1'
  have HI1 := Lib.hid hin1
  have HC1 := Lib.hid ((by have h := is_new HP0.out [⟨#[115, 107, 105, 112]⟩] 1 [.string ⟨#[115, 107, 105, 112]⟩] rfl rfl (by decide) (by decide); rw [HI1.out] at h; exact h))
  clear hin1
  go_wp2_with (go_at_call 47; (with_reducible refine Calls.mono HC1.out ?_); rintro e w1 ⟨rfl, hb⟩; have h3 : MStep p ve w0 ve w1 := PStep.below hb; have HP1 := Lib.hid (HP0.out.moved hb); have HS1 := Lib.hid (HS0.out.trans h3); have HG1 := Lib.hid (mkeep (HT0.out.trans h3) HP0.out HG0.out (by decide) (by decide)); have HT1 := Lib.hid (HT0.out.trans h3); clear bx; have bx := cell_of_row _ _ 0 _ _ _ HG1.out; clear hb h3)
  have h2 := HR0.out
  cases r with
  | ok i2 d2 out2 =>
   have HX2 := Lib.hid h2
   have HC2 := Lib.hid (node_rule HP1.out 13 13 rfl (.func (.func 94) #[] #[.pointer (some ⟨g, 0, none⟩)]) 94 (.pointer (some ⟨g, 0, none⟩)) (.inr rfl) (fun w => enters_ Tryz.func94 (by kernel_rfl) rfl #[(.pointer (some ⟨g, 0, none⟩))] w) (T := [.word ⟨#[115, 107, 105, 112]⟩]) (R := .r_statement) (by rw [one_of HI1.out]; rfl) (G_statement_1.body HP1.out HG1.out) HNN.out HX2.out)
   clear h2
   go_wp2_with (go_at_call 33; (with_reducible refine Calls.mono HC2.out ?_); rintro e w2 ⟨rfl, ve2, h2, h3⟩; have HP2 := Lib.hid h2; have HS2 := Lib.hid (HS1.out.trans h3); have HG2 := Lib.hid (mkeep (HT1.out.trans h3) HP0.out HG0.out (by decide) (by decide)); have HT2 := Lib.hid (HT1.out.trans h3); clear bx; have bx := cell_of_row _ _ 0 _ _ _ HG2.out; clear h2 h3)
   go_end0
   exact ⟨rfl, ve2, HP2.out, HS2.out⟩
  | err er jj =>
   have HX2 := Lib.hid h2
   have HC2 := Lib.hid (node_rule HP1.out 13 13 rfl (.func (.func 94) #[] #[.pointer (some ⟨g, 0, none⟩)]) 94 (.pointer (some ⟨g, 0, none⟩)) (.inr rfl) (fun w => enters_ Tryz.func94 (by kernel_rfl) rfl #[(.pointer (some ⟨g, 0, none⟩))] w) (T := [.word ⟨#[115, 107, 105, 112]⟩]) (R := .r_statement) (by rw [one_of HI1.out]; rfl) (G_statement_1.body HP1.out HG1.out) HNN.out HX2.out)
   clear h2
   go_wp2_with (go_at_call 33; (with_reducible refine Calls.mono HC2.out ?_); rintro e w2 ⟨rfl, ve2, h3⟩; have HS2 := Lib.hid (HS1.out.trans h3); clear h3)
   exact ⟨rfl, rfl, ve2, HS2.out⟩
 have hin1 : inL (cAt l i) [⟨#[115, 107, 105, 112]⟩] = false := by simpa using hin1'
 clear hin1'
 have HI1 := Lib.hid hin1
 have HC1 := Lib.hid ((by have h := is_new HP0.out [⟨#[115, 107, 105, 112]⟩] 1 [.string ⟨#[115, 107, 105, 112]⟩] rfl rfl (by decide) (by decide); rw [HI1.out] at h; exact h))
 clear hin1
 go_wp2_with (go_at_call 47; (with_reducible refine Calls.mono HC1.out ?_); rintro e w1 ⟨rfl, hb⟩; have h3 : MStep p ve w0 ve w1 := PStep.below hb; have HP1 := Lib.hid (HP0.out.moved hb); have HS1 := Lib.hid (HS0.out.trans h3); have HG1 := Lib.hid (mkeep (HT0.out.trans h3) HP0.out HG0.out (by decide) (by decide)); have HT1 := Lib.hid (HT0.out.trans h3); clear bx; have bx := cell_of_row _ _ 0 _ _ _ HG1.out; clear hb h3)
 by_cases hin2' : inL (cAt l i) [⟨#[64, 110, 97, 109, 101]⟩] = true
 ·have hin2 := hin2'
  clear hin2'
  have HI2 := Lib.hid hin2
  have HC2 := Lib.hid ((by have h := of_new HP1.out [1] 1 [.int .u8 1] rfl rfl (by decide); rw [of_name] at h; rw [HI2.out] at h; exact h))
  clear hin2
  go_wp2_with (go_at_call 48; (with_reducible refine Calls.mono HC2.out ?_); rintro e w2 ⟨rfl, hb⟩; have h3 : MStep p ve w1 ve w2 := PStep.below hb; have HP2 := Lib.hid (HP1.out.moved hb); have HS2 := Lib.hid (HS1.out.trans h3); have HG2 := Lib.hid (mkeep (HT1.out.trans h3) HP0.out HG0.out (by decide) (by decide)); have HT2 := Lib.hid (HT1.out.trans h3); clear bx; have bx := cell_of_row _ _ 0 _ _ _ HG2.out; clear hb h3)
  have h3 := HR0.out
  cases r with
  | ok i3 d3 out3 =>
   have HX3 := Lib.hid h3
   have HC3 := Lib.hid (node_rule HP2.out 14 14 rfl (.func (.func 95) #[] #[.pointer (some ⟨g, 0, none⟩)]) 95 (.pointer (some ⟨g, 0, none⟩)) (.inr rfl) (fun w => enters_ Tryz.func95 (by kernel_rfl) rfl #[(.pointer (some ⟨g, 0, none⟩))] w) (T := [.rule .r_object, .rule .r_assigned]) (R := .r_statement) (by rw [one_of HI2.out]; rfl) (G_statement_2.body HP2.out HG2.out) HNN.out HX3.out)
   clear h3
   go_wp2_with (go_at_call 33; (with_reducible refine Calls.mono HC3.out ?_); rintro e w3 ⟨rfl, ve3, h2, h3⟩; have HP3 := Lib.hid h2; have HS3 := Lib.hid (HS2.out.trans h3); have HG3 := Lib.hid (mkeep (HT2.out.trans h3) HP0.out HG0.out (by decide) (by decide)); have HT3 := Lib.hid (HT2.out.trans h3); clear bx; have bx := cell_of_row _ _ 0 _ _ _ HG3.out; clear h2 h3)
   go_end0
   exact ⟨rfl, ve3, HP3.out, HS3.out⟩
  | err er jj =>
   have HX3 := Lib.hid h3
   have HC3 := Lib.hid (node_rule HP2.out 14 14 rfl (.func (.func 95) #[] #[.pointer (some ⟨g, 0, none⟩)]) 95 (.pointer (some ⟨g, 0, none⟩)) (.inr rfl) (fun w => enters_ Tryz.func95 (by kernel_rfl) rfl #[(.pointer (some ⟨g, 0, none⟩))] w) (T := [.rule .r_object, .rule .r_assigned]) (R := .r_statement) (by rw [one_of HI2.out]; rfl) (G_statement_2.body HP2.out HG2.out) HNN.out HX3.out)
   clear h3
   go_wp2_with (go_at_call 33; (with_reducible refine Calls.mono HC3.out ?_); rintro e w3 ⟨rfl, ve3, h3⟩; have HS3 := Lib.hid (HS2.out.trans h3); clear h3)
   exact ⟨rfl, rfl, ve3, HS3.out⟩
 have hin2 : inL (cAt l i) [⟨#[64, 110, 97, 109, 101]⟩] = false := by simpa using hin2'
 clear hin2'
 have HI2 := Lib.hid hin2
 have HC2 := Lib.hid ((by have h := of_new HP1.out [1] 1 [.int .u8 1] rfl rfl (by decide); rw [of_name] at h; rw [HI2.out] at h; exact h))
 clear hin2
 go_wp2_with (go_at_call 48; (with_reducible refine Calls.mono HC2.out ?_); rintro e w2 ⟨rfl, hb⟩; have h3 : MStep p ve w1 ve w2 := PStep.below hb; have HP2 := Lib.hid (HP1.out.moved hb); have HS2 := Lib.hid (HS1.out.trans h3); have HG2 := Lib.hid (mkeep (HT1.out.trans h3) HP0.out HG0.out (by decide) (by decide)); have HT2 := Lib.hid (HT1.out.trans h3); clear bx; have bx := cell_of_row _ _ 0 _ _ _ HG2.out; clear hb h3)
 by_cases hin3' : inL (cAt l i) [⟨#[105, 102]⟩] = true
 ·have hin3 := hin3'
  clear hin3'
  have HI3 := Lib.hid hin3
  have HC3 := Lib.hid ((by have h := is_new HP2.out [⟨#[105, 102]⟩] 1 [.string ⟨#[105, 102]⟩] rfl rfl (by decide) (by decide); rw [HI3.out] at h; exact h))
  clear hin3
  go_wp2_with (go_at_call 47; (with_reducible refine Calls.mono HC3.out ?_); rintro e w3 ⟨rfl, hb⟩; have h3 : MStep p ve w2 ve w3 := PStep.below hb; have HP3 := Lib.hid (HP2.out.moved hb); have HS3 := Lib.hid (HS2.out.trans h3); have HG3 := Lib.hid (mkeep (HT2.out.trans h3) HP0.out HG0.out (by decide) (by decide)); have HT3 := Lib.hid (HT2.out.trans h3); clear bx; have bx := cell_of_row _ _ 0 _ _ _ HG3.out; clear hb h3)
  have h4 := HR0.out
  cases r with
  | ok i4 d4 out4 =>
   have HX4 := Lib.hid h4
   have HC4 := Lib.hid (node_rule HP3.out 15 15 rfl (.func (.func 97) #[.pointer (some ⟨p, 0, none⟩)] #[]) 97 (.pointer (some ⟨p, 0, none⟩)) (.inl rfl) (fun w => enters_ Tryz.func97 (by kernel_rfl) rfl #[(.pointer (some ⟨p, 0, none⟩))] w) (T := [.word ⟨#[105, 102]⟩, .rule .r_expr, .word ⟨#[116, 104, 101, 110]⟩, .rule .r_body, .rule .r_elses, .word ⟨#[101, 110, 100]⟩]) (R := .r_statement) (by rw [one_of HI3.out]; rfl) (G_choice.body) HNN.out HX4.out)
   clear h4
   go_wp2_with (go_at_call 33; (with_reducible refine Calls.mono HC4.out ?_); rintro e w4 ⟨rfl, ve4, h2, h3⟩; have HP4 := Lib.hid h2; have HS4 := Lib.hid (HS3.out.trans h3); have HG4 := Lib.hid (mkeep (HT3.out.trans h3) HP0.out HG0.out (by decide) (by decide)); have HT4 := Lib.hid (HT3.out.trans h3); clear bx; have bx := cell_of_row _ _ 0 _ _ _ HG4.out; clear h2 h3)
   go_end0
   exact ⟨rfl, ve4, HP4.out, HS4.out⟩
  | err er jj =>
   have HX4 := Lib.hid h4
   have HC4 := Lib.hid (node_rule HP3.out 15 15 rfl (.func (.func 97) #[.pointer (some ⟨p, 0, none⟩)] #[]) 97 (.pointer (some ⟨p, 0, none⟩)) (.inl rfl) (fun w => enters_ Tryz.func97 (by kernel_rfl) rfl #[(.pointer (some ⟨p, 0, none⟩))] w) (T := [.word ⟨#[105, 102]⟩, .rule .r_expr, .word ⟨#[116, 104, 101, 110]⟩, .rule .r_body, .rule .r_elses, .word ⟨#[101, 110, 100]⟩]) (R := .r_statement) (by rw [one_of HI3.out]; rfl) (G_choice.body) HNN.out HX4.out)
   clear h4
   go_wp2_with (go_at_call 33; (with_reducible refine Calls.mono HC4.out ?_); rintro e w4 ⟨rfl, ve4, h3⟩; have HS4 := Lib.hid (HS3.out.trans h3); clear h3)
   exact ⟨rfl, rfl, ve4, HS4.out⟩
 have hin3 : inL (cAt l i) [⟨#[105, 102]⟩] = false := by simpa using hin3'
 clear hin3'
 have HI3 := Lib.hid hin3
 have HC3 := Lib.hid ((by have h := is_new HP2.out [⟨#[105, 102]⟩] 1 [.string ⟨#[105, 102]⟩] rfl rfl (by decide) (by decide); rw [HI3.out] at h; exact h))
 clear hin3
 go_wp2_with (go_at_call 47; (with_reducible refine Calls.mono HC3.out ?_); rintro e w3 ⟨rfl, hb⟩; have h3 : MStep p ve w2 ve w3 := PStep.below hb; have HP3 := Lib.hid (HP2.out.moved hb); have HS3 := Lib.hid (HS2.out.trans h3); have HG3 := Lib.hid (mkeep (HT2.out.trans h3) HP0.out HG0.out (by decide) (by decide)); have HT3 := Lib.hid (HT2.out.trans h3); clear bx; have bx := cell_of_row _ _ 0 _ _ _ HG3.out; clear hb h3)
 by_cases hin4' : inL (cAt l i) [⟨#[119, 104, 105, 108, 101]⟩] = true
 ·have hin4 := hin4'
  clear hin4'
  have HI4 := Lib.hid hin4
  have HC4 := Lib.hid ((by have h := is_new HP3.out [⟨#[119, 104, 105, 108, 101]⟩] 1 [.string ⟨#[119, 104, 105, 108, 101]⟩] rfl rfl (by decide) (by decide); rw [HI4.out] at h; exact h))
  clear hin4
  go_wp2_with (go_at_call 47; (with_reducible refine Calls.mono HC4.out ?_); rintro e w4 ⟨rfl, hb⟩; have h3 : MStep p ve w3 ve w4 := PStep.below hb; have HP4 := Lib.hid (HP3.out.moved hb); have HS4 := Lib.hid (HS3.out.trans h3); have HG4 := Lib.hid (mkeep (HT3.out.trans h3) HP0.out HG0.out (by decide) (by decide)); have HT4 := Lib.hid (HT3.out.trans h3); clear bx; have bx := cell_of_row _ _ 0 _ _ _ HG4.out; clear hb h3)
  have h5 := HR0.out
  cases r with
  | ok i5 d5 out5 =>
   have HX5 := Lib.hid h5
   have HC5 := Lib.hid (node_rule HP4.out 16 16 rfl (.func (.func 98) #[] #[.pointer (some ⟨g, 0, none⟩)]) 98 (.pointer (some ⟨g, 0, none⟩)) (.inr rfl) (fun w => enters_ Tryz.func98 (by kernel_rfl) rfl #[(.pointer (some ⟨g, 0, none⟩))] w) (T := [.word ⟨#[119, 104, 105, 108, 101]⟩, .rule .r_expr, .word ⟨#[100, 111]⟩, .rule .r_body, .word ⟨#[101, 110, 100]⟩]) (R := .r_statement) (by rw [one_of HI4.out]; rfl) (G_statement_3.body HP4.out HG4.out) HNN.out HX5.out)
   clear h5
   go_wp2_with (go_at_call 33; (with_reducible refine Calls.mono HC5.out ?_); rintro e w5 ⟨rfl, ve5, h2, h3⟩; have HP5 := Lib.hid h2; have HS5 := Lib.hid (HS4.out.trans h3); have HG5 := Lib.hid (mkeep (HT4.out.trans h3) HP0.out HG0.out (by decide) (by decide)); have HT5 := Lib.hid (HT4.out.trans h3); clear bx; have bx := cell_of_row _ _ 0 _ _ _ HG5.out; clear h2 h3)
   go_end0
   exact ⟨rfl, ve5, HP5.out, HS5.out⟩
  | err er jj =>
   have HX5 := Lib.hid h5
   have HC5 := Lib.hid (node_rule HP4.out 16 16 rfl (.func (.func 98) #[] #[.pointer (some ⟨g, 0, none⟩)]) 98 (.pointer (some ⟨g, 0, none⟩)) (.inr rfl) (fun w => enters_ Tryz.func98 (by kernel_rfl) rfl #[(.pointer (some ⟨g, 0, none⟩))] w) (T := [.word ⟨#[119, 104, 105, 108, 101]⟩, .rule .r_expr, .word ⟨#[100, 111]⟩, .rule .r_body, .word ⟨#[101, 110, 100]⟩]) (R := .r_statement) (by rw [one_of HI4.out]; rfl) (G_statement_3.body HP4.out HG4.out) HNN.out HX5.out)
   clear h5
   go_wp2_with (go_at_call 33; (with_reducible refine Calls.mono HC5.out ?_); rintro e w5 ⟨rfl, ve5, h3⟩; have HS5 := Lib.hid (HS4.out.trans h3); clear h3)
   exact ⟨rfl, rfl, ve5, HS5.out⟩
 have hin4 : inL (cAt l i) [⟨#[119, 104, 105, 108, 101]⟩] = false := by simpa using hin4'
 clear hin4'
 have HI4 := Lib.hid hin4
 have HC4 := Lib.hid ((by have h := is_new HP3.out [⟨#[119, 104, 105, 108, 101]⟩] 1 [.string ⟨#[119, 104, 105, 108, 101]⟩] rfl rfl (by decide) (by decide); rw [HI4.out] at h; exact h))
 clear hin4
 go_wp2_with (go_at_call 47; (with_reducible refine Calls.mono HC4.out ?_); rintro e w4 ⟨rfl, hb⟩; have h3 : MStep p ve w3 ve w4 := PStep.below hb; have HP4 := Lib.hid (HP3.out.moved hb); have HS4 := Lib.hid (HS3.out.trans h3); have HG4 := Lib.hid (mkeep (HT3.out.trans h3) HP0.out HG0.out (by decide) (by decide)); have HT4 := Lib.hid (HT3.out.trans h3); clear bx; have bx := cell_of_row _ _ 0 _ _ _ HG4.out; clear hb h3)
 by_cases hin5' : inL (cAt l i) [⟨#[102, 111, 114]⟩] = true
 ·have hin5 := hin5'
  clear hin5'
  have HI5 := Lib.hid hin5
  have HC5 := Lib.hid ((by have h := is_new HP4.out [⟨#[102, 111, 114]⟩] 1 [.string ⟨#[102, 111, 114]⟩] rfl rfl (by decide) (by decide); rw [HI5.out] at h; exact h))
  clear hin5
  go_wp2_with (go_at_call 47; (with_reducible refine Calls.mono HC5.out ?_); rintro e w5 ⟨rfl, hb⟩; have h3 : MStep p ve w4 ve w5 := PStep.below hb; have HP5 := Lib.hid (HP4.out.moved hb); have HS5 := Lib.hid (HS4.out.trans h3); have HG5 := Lib.hid (mkeep (HT4.out.trans h3) HP0.out HG0.out (by decide) (by decide)); have HT5 := Lib.hid (HT4.out.trans h3); clear bx; have bx := cell_of_row _ _ 0 _ _ _ HG5.out; clear hb h3)
  have h6 := HR0.out
  cases r with
  | ok i6 d6 out6 =>
   have HX6 := Lib.hid h6
   have HC6 := Lib.hid (node_rule HP5.out 17 17 rfl (.func (.func 99) #[] #[.pointer (some ⟨g, 0, none⟩)]) 99 (.pointer (some ⟨g, 0, none⟩)) (.inr rfl) (fun w => enters_ Tryz.func99 (by kernel_rfl) rfl #[(.pointer (some ⟨g, 0, none⟩))] w) (T := [.word ⟨#[102, 111, 114]⟩, .word ⟨#[64, 110, 97, 109, 101]⟩, .word ⟨#[58, 61]⟩, .rule .r_expr, .word ⟨#[116, 111]⟩, .rule .r_expr, .word ⟨#[100, 111]⟩, .rule .r_body, .word ⟨#[101, 110, 100]⟩]) (R := .r_statement) (by rw [one_of HI5.out]; rfl) (G_statement_4.body HP5.out HG5.out) HNN.out HX6.out)
   clear h6
   go_wp2_with (go_at_call 33; (with_reducible refine Calls.mono HC6.out ?_); rintro e w6 ⟨rfl, ve6, h2, h3⟩; have HP6 := Lib.hid h2; have HS6 := Lib.hid (HS5.out.trans h3); have HG6 := Lib.hid (mkeep (HT5.out.trans h3) HP0.out HG0.out (by decide) (by decide)); have HT6 := Lib.hid (HT5.out.trans h3); clear bx; have bx := cell_of_row _ _ 0 _ _ _ HG6.out; clear h2 h3)
   go_end0
   exact ⟨rfl, ve6, HP6.out, HS6.out⟩
  | err er jj =>
   have HX6 := Lib.hid h6
   have HC6 := Lib.hid (node_rule HP5.out 17 17 rfl (.func (.func 99) #[] #[.pointer (some ⟨g, 0, none⟩)]) 99 (.pointer (some ⟨g, 0, none⟩)) (.inr rfl) (fun w => enters_ Tryz.func99 (by kernel_rfl) rfl #[(.pointer (some ⟨g, 0, none⟩))] w) (T := [.word ⟨#[102, 111, 114]⟩, .word ⟨#[64, 110, 97, 109, 101]⟩, .word ⟨#[58, 61]⟩, .rule .r_expr, .word ⟨#[116, 111]⟩, .rule .r_expr, .word ⟨#[100, 111]⟩, .rule .r_body, .word ⟨#[101, 110, 100]⟩]) (R := .r_statement) (by rw [one_of HI5.out]; rfl) (G_statement_4.body HP5.out HG5.out) HNN.out HX6.out)
   clear h6
   go_wp2_with (go_at_call 33; (with_reducible refine Calls.mono HC6.out ?_); rintro e w6 ⟨rfl, ve6, h3⟩; have HS6 := Lib.hid (HS5.out.trans h3); clear h3)
   exact ⟨rfl, rfl, ve6, HS6.out⟩
 have hin5 : inL (cAt l i) [⟨#[102, 111, 114]⟩] = false := by simpa using hin5'
 clear hin5'
 have HI5 := Lib.hid hin5
 have HC5 := Lib.hid ((by have h := is_new HP4.out [⟨#[102, 111, 114]⟩] 1 [.string ⟨#[102, 111, 114]⟩] rfl rfl (by decide) (by decide); rw [HI5.out] at h; exact h))
 clear hin5
 go_wp2_with (go_at_call 47; (with_reducible refine Calls.mono HC5.out ?_); rintro e w5 ⟨rfl, hb⟩; have h3 : MStep p ve w4 ve w5 := PStep.below hb; have HP5 := Lib.hid (HP4.out.moved hb); have HS5 := Lib.hid (HS4.out.trans h3); have HG5 := Lib.hid (mkeep (HT4.out.trans h3) HP0.out HG0.out (by decide) (by decide)); have HT5 := Lib.hid (HT4.out.trans h3); clear bx; have bx := cell_of_row _ _ 0 _ _ _ HG5.out; clear hb h3)
 have h6 := HR0.out
 cases r with
 | ok i6 d6 out6 =>
  have HX6 := Lib.hid h6
  have HC6 := Lib.hid (G_other n HNN.out W0 A c w5 p i d out ve _ HP5.out HX6.out (five_no HI1.out HI2.out HI3.out HI4.out HI5.out))
  clear h6
  go_wp2_with (go_at_call 100; (with_reducible refine Calls.mono HC6.out ?_); rintro e w6 ⟨rfl, ve6, h2, h3⟩; have HP6 := Lib.hid h2; have HS6 := Lib.hid (HS5.out.trans h3); have HG6 := Lib.hid (mkeep (HT5.out.trans h3) HP0.out HG0.out (by decide) (by decide)); have HT6 := Lib.hid (HT5.out.trans h3); clear bx; have bx := cell_of_row _ _ 0 _ _ _ HG6.out; clear h2 h3)
  go_end0
  exact ⟨rfl, ve6, HP6.out, HS6.out⟩
 | err er jj =>
  have HX6 := Lib.hid h6
  have HC6 := Lib.hid (G_other n HNN.out W0 A c w5 p i d out ve _ HP5.out HX6.out (five_no HI1.out HI2.out HI3.out HI4.out HI5.out))
  clear h6
  go_wp2_with (go_at_call 100; (with_reducible refine Calls.mono HC6.out ?_); rintro e w6 ⟨rfl, ve6, h3⟩; have HS6 := Lib.hid (HS5.out.trans h3); clear h3)
  exact ⟨rfl, rfl, ve6, HS6.out⟩
end Go.Proofs.YtmjbpgnjgblnmaaGreat
namespace Go.Proofs.YtmjbpgnjgblnmaaGreat
open Go.RowKit Go.Proofs.YtmjbpgnjgblnmaaGreatW.PrintWords Go.Proofs.YtmjbpgnjgblnmaaGreatW.PrintLast Go.Proofs.YtmjbpgnjgblnmaaGreatW.PrintMore
set_option maxRecDepth 100000 in
set_option maxHeartbeats 8000000 in
theorem g_other (l : List Tk) (N : Nat) (G_other_1 : GoodC l N 122 [.word ⟨#[114, 101, 112, 101, 97, 116]⟩, .rule .r_body, .word ⟨#[117, 110, 116, 105, 108]⟩, .rule .r_expr]) (G_other_2 : GoodC l N 123 [.word ⟨#[114, 101, 116, 117, 114, 110]⟩, .rule .r_maybe]) (G_other_3 : GoodC l N 125 [.word ⟨#[98, 101, 103, 105, 110]⟩, .rule .r_body, .word ⟨#[101, 110, 100]⟩]) : ∀ n, n ≤ N + 1 → ∀ (W0 : World) (A : Option Addr) (c : Nat) (w : World) (p i : Nat) (d : Int) (out : List Ev) (ve : Value) (r : SRes), SAt W0 A c l w p i d out ve → srun l n ⟨[.rule .r_statement], i, d, out⟩ = some r → inL (cAt l i) [⟨#[115, 107, 105, 112]⟩, ⟨#[64, 110, 97, 109, 101]⟩, ⟨#[105, 102]⟩, ⟨#[119, 104, 105, 108, 101]⟩, ⟨#[102, 111, 114]⟩] = false → Calls Tryz.prog 100 #[.pointer (some ⟨p, 0, none⟩)] w (SPost W0 A c l p ve w r) := by
 intro n hn W0 A c w p i d out ve r H hr hpre
 show Calls Tryz.prog 100 _ w _
 have HNN := Lib.hid hn
 have hr0 : srun l n ⟨[.rule .r_statement], i, d, out⟩ = some r := hr
 have HPRE := Lib.hid hpre
 have HR0 := Lib.hid hr0
 clear hn hr hr0 hpre
 obtain ⟨w0, hw0⟩ : ∃ V, w.alloc (.cells #[.pointer (some ⟨p, 0, none⟩)] 54) = V := ⟨_, rfl⟩
 have hb0 : Below w.heap.size w w0 := by rw [← hw0]; exact (Below.refl _ w).alloc (Nat.le_refl _) _
 have hg : w0.heap[w.heap.size]? = some (.cells #[.pointer (some ⟨p, 0, none⟩)] 54 (0, 0)) := by rw [← hw0]; exact World.alloc_heap_new _ _
 have HWB := Lib.hid hw0
 have HP0 := Lib.hid (H.moved hb0)
 have HS0 := Lib.hid (PStep.below hb0 : MStep p ve w ve w0)
 have HT0 := Lib.hid (PStep.refl p (.slice none 0 0) ve w0)
 obtain ⟨g, hge⟩ : ∃ g, w.heap.size = g := ⟨_, rfl⟩
 rw [hge] at hg
 have HGE := Lib.hid hge
 have HG0 := Lib.hid hg
 have bx := cell_of_row _ _ 0 _ _ _ hg
 clear hw0 hb0 hg hge H
 go_enter Tryz.func100, Tryz.ntmps100
 go_upto_region 2 with (fail)
 rw [HWB.out, HGE.out]
 by_cases hin1' : inL (cAt l i) [⟨#[114, 101, 112, 101, 97, 116]⟩] = true
 ·have hin1 := hin1'
  clear hin1'
  have HI1 := Lib.hid hin1
  have HC1 := Lib.hid ((by have h := is_new HP0.out [⟨#[114, 101, 112, 101, 97, 116]⟩] 1 [.string ⟨#[114, 101, 112, 101, 97, 116]⟩] rfl rfl (by decide) (by decide); rw [HI1.out] at h; exact h))
  clear hin1
  go_wp2_with (go_at_call 47; (with_reducible refine Calls.mono HC1.out ?_); rintro e w1 ⟨rfl, hb⟩; have h3 : MStep p ve w0 ve w1 := PStep.below hb; have HP1 := Lib.hid (HP0.out.moved hb); have HS1 := Lib.hid (HS0.out.trans h3); have HG1 := Lib.hid (mkeep (HT0.out.trans h3) HP0.out HG0.out (by decide) (by decide)); have HT1 := Lib.hid (HT0.out.trans h3); clear bx; have bx := cell_of_row _ _ 0 _ _ _ HG1.out; clear hb h3)
  have h2 := HR0.out
  cases r with
  | ok i2 d2 out2 =>
   have HX2 := Lib.hid h2
   have HC2 := Lib.hid (node_rule HP1.out 18 18 rfl (.func (.func 122) #[] #[.pointer (some ⟨g, 0, none⟩)]) 122 (.pointer (some ⟨g, 0, none⟩)) (.inr rfl) (fun w => enters_ Tryz.func122 (by kernel_rfl) rfl #[(.pointer (some ⟨g, 0, none⟩))] w) (T := [.word ⟨#[114, 101, 112, 101, 97, 116]⟩, .rule .r_body, .word ⟨#[117, 110, 116, 105, 108]⟩, .rule .r_expr]) (R := .r_statement) (by rw [one_of HI1.out]; rfl) (G_other_1.body HP1.out HG1.out) HNN.out HX2.out)
   clear h2
   go_wp2_with (go_at_call 33; (with_reducible refine Calls.mono HC2.out ?_); rintro e w2 ⟨rfl, ve2, h2, h3⟩; have HP2 := Lib.hid h2; have HS2 := Lib.hid (HS1.out.trans h3); have HG2 := Lib.hid (mkeep (HT1.out.trans h3) HP0.out HG0.out (by decide) (by decide)); have HT2 := Lib.hid (HT1.out.trans h3); clear bx; have bx := cell_of_row _ _ 0 _ _ _ HG2.out; clear h2 h3)
   go_end0
   exact ⟨rfl, ve2, HP2.out, HS2.out⟩
  | err er jj =>
   have HX2 := Lib.hid h2
   have HC2 := Lib.hid (node_rule HP1.out 18 18 rfl (.func (.func 122) #[] #[.pointer (some ⟨g, 0, none⟩)]) 122 (.pointer (some ⟨g, 0, none⟩)) (.inr rfl) (fun w => enters_ Tryz.func122 (by kernel_rfl) rfl #[(.pointer (some ⟨g, 0, none⟩))] w) (T := [.word ⟨#[114, 101, 112, 101, 97, 116]⟩, .rule .r_body, .word ⟨#[117, 110, 116, 105, 108]⟩, .rule .r_expr]) (R := .r_statement) (by rw [one_of HI1.out]; rfl) (G_other_1.body HP1.out HG1.out) HNN.out HX2.out)
   clear h2
   go_wp2_with (go_at_call 33; (with_reducible refine Calls.mono HC2.out ?_); rintro e w2 ⟨rfl, ve2, h3⟩; have HS2 := Lib.hid (HS1.out.trans h3); clear h3)
   exact ⟨rfl, rfl, ve2, HS2.out⟩
 have hin1 : inL (cAt l i) [⟨#[114, 101, 112, 101, 97, 116]⟩] = false := by simpa using hin1'
 clear hin1'
 have HI1 := Lib.hid hin1
 have HC1 := Lib.hid ((by have h := is_new HP0.out [⟨#[114, 101, 112, 101, 97, 116]⟩] 1 [.string ⟨#[114, 101, 112, 101, 97, 116]⟩] rfl rfl (by decide) (by decide); rw [HI1.out] at h; exact h))
 clear hin1
 go_wp2_with (go_at_call 47; (with_reducible refine Calls.mono HC1.out ?_); rintro e w1 ⟨rfl, hb⟩; have h3 : MStep p ve w0 ve w1 := PStep.below hb; have HP1 := Lib.hid (HP0.out.moved hb); have HS1 := Lib.hid (HS0.out.trans h3); have HG1 := Lib.hid (mkeep (HT0.out.trans h3) HP0.out HG0.out (by decide) (by decide)); have HT1 := Lib.hid (HT0.out.trans h3); clear bx; have bx := cell_of_row _ _ 0 _ _ _ HG1.out; clear hb h3)
 by_cases hin2' : inL (cAt l i) [⟨#[114, 101, 116, 117, 114, 110]⟩] = true
 ·have hin2 := hin2'
  clear hin2'
  have HI2 := Lib.hid hin2
  have HC2 := Lib.hid ((by have h := is_new HP1.out [⟨#[114, 101, 116, 117, 114, 110]⟩] 1 [.string ⟨#[114, 101, 116, 117, 114, 110]⟩] rfl rfl (by decide) (by decide); rw [HI2.out] at h; exact h))
  clear hin2
  go_wp2_with (go_at_call 47; (with_reducible refine Calls.mono HC2.out ?_); rintro e w2 ⟨rfl, hb⟩; have h3 : MStep p ve w1 ve w2 := PStep.below hb; have HP2 := Lib.hid (HP1.out.moved hb); have HS2 := Lib.hid (HS1.out.trans h3); have HG2 := Lib.hid (mkeep (HT1.out.trans h3) HP0.out HG0.out (by decide) (by decide)); have HT2 := Lib.hid (HT1.out.trans h3); clear bx; have bx := cell_of_row _ _ 0 _ _ _ HG2.out; clear hb h3)
  have h3 := HR0.out
  cases r with
  | ok i3 d3 out3 =>
   have HX3 := Lib.hid h3
   have HC3 := Lib.hid (node_rule HP2.out 19 19 rfl (.func (.func 123) #[] #[.pointer (some ⟨g, 0, none⟩)]) 123 (.pointer (some ⟨g, 0, none⟩)) (.inr rfl) (fun w => enters_ Tryz.func123 (by kernel_rfl) rfl #[(.pointer (some ⟨g, 0, none⟩))] w) (T := [.word ⟨#[114, 101, 116, 117, 114, 110]⟩, .rule .r_maybe]) (R := .r_statement) (by rw [one_of HI2.out]; rfl) (G_other_2.body HP2.out HG2.out) HNN.out HX3.out)
   clear h3
   go_wp2_with (go_at_call 33; (with_reducible refine Calls.mono HC3.out ?_); rintro e w3 ⟨rfl, ve3, h2, h3⟩; have HP3 := Lib.hid h2; have HS3 := Lib.hid (HS2.out.trans h3); have HG3 := Lib.hid (mkeep (HT2.out.trans h3) HP0.out HG0.out (by decide) (by decide)); have HT3 := Lib.hid (HT2.out.trans h3); clear bx; have bx := cell_of_row _ _ 0 _ _ _ HG3.out; clear h2 h3)
   go_end0
   exact ⟨rfl, ve3, HP3.out, HS3.out⟩
  | err er jj =>
   have HX3 := Lib.hid h3
   have HC3 := Lib.hid (node_rule HP2.out 19 19 rfl (.func (.func 123) #[] #[.pointer (some ⟨g, 0, none⟩)]) 123 (.pointer (some ⟨g, 0, none⟩)) (.inr rfl) (fun w => enters_ Tryz.func123 (by kernel_rfl) rfl #[(.pointer (some ⟨g, 0, none⟩))] w) (T := [.word ⟨#[114, 101, 116, 117, 114, 110]⟩, .rule .r_maybe]) (R := .r_statement) (by rw [one_of HI2.out]; rfl) (G_other_2.body HP2.out HG2.out) HNN.out HX3.out)
   clear h3
   go_wp2_with (go_at_call 33; (with_reducible refine Calls.mono HC3.out ?_); rintro e w3 ⟨rfl, ve3, h3⟩; have HS3 := Lib.hid (HS2.out.trans h3); clear h3)
   exact ⟨rfl, rfl, ve3, HS3.out⟩
 have hin2 : inL (cAt l i) [⟨#[114, 101, 116, 117, 114, 110]⟩] = false := by simpa using hin2'
 clear hin2'
 have HI2 := Lib.hid hin2
 have HC2 := Lib.hid ((by have h := is_new HP1.out [⟨#[114, 101, 116, 117, 114, 110]⟩] 1 [.string ⟨#[114, 101, 116, 117, 114, 110]⟩] rfl rfl (by decide) (by decide); rw [HI2.out] at h; exact h))
 clear hin2
 go_wp2_with (go_at_call 47; (with_reducible refine Calls.mono HC2.out ?_); rintro e w2 ⟨rfl, hb⟩; have h3 : MStep p ve w1 ve w2 := PStep.below hb; have HP2 := Lib.hid (HP1.out.moved hb); have HS2 := Lib.hid (HS1.out.trans h3); have HG2 := Lib.hid (mkeep (HT1.out.trans h3) HP0.out HG0.out (by decide) (by decide)); have HT2 := Lib.hid (HT1.out.trans h3); clear bx; have bx := cell_of_row _ _ 0 _ _ _ HG2.out; clear hb h3)
 by_cases hin3' : inL (cAt l i) [⟨#[98, 101, 103, 105, 110]⟩] = true
 ·have hin3 := hin3'
  clear hin3'
  have HI3 := Lib.hid hin3
  have HC3 := Lib.hid ((by have h := is_new HP2.out [⟨#[98, 101, 103, 105, 110]⟩] 1 [.string ⟨#[98, 101, 103, 105, 110]⟩] rfl rfl (by decide) (by decide); rw [HI3.out] at h; exact h))
  clear hin3
  go_wp2_with (go_at_call 47; (with_reducible refine Calls.mono HC3.out ?_); rintro e w3 ⟨rfl, hb⟩; have h3 : MStep p ve w2 ve w3 := PStep.below hb; have HP3 := Lib.hid (HP2.out.moved hb); have HS3 := Lib.hid (HS2.out.trans h3); have HG3 := Lib.hid (mkeep (HT2.out.trans h3) HP0.out HG0.out (by decide) (by decide)); have HT3 := Lib.hid (HT2.out.trans h3); clear bx; have bx := cell_of_row _ _ 0 _ _ _ HG3.out; clear hb h3)
  have h4 := HR0.out
  cases r with
  | ok i4 d4 out4 =>
   have HX4 := Lib.hid h4
   have HC4 := Lib.hid (node_rule HP3.out 20 20 rfl (.func (.func 125) #[] #[.pointer (some ⟨g, 0, none⟩)]) 125 (.pointer (some ⟨g, 0, none⟩)) (.inr rfl) (fun w => enters_ Tryz.func125 (by kernel_rfl) rfl #[(.pointer (some ⟨g, 0, none⟩))] w) (T := [.word ⟨#[98, 101, 103, 105, 110]⟩, .rule .r_body, .word ⟨#[101, 110, 100]⟩]) (R := .r_statement) (by rw [one_of HI3.out]; rfl) (G_other_3.body HP3.out HG3.out) HNN.out HX4.out)
   clear h4
   go_wp2_with (go_at_call 33; (with_reducible refine Calls.mono HC4.out ?_); rintro e w4 ⟨rfl, ve4, h2, h3⟩; have HP4 := Lib.hid h2; have HS4 := Lib.hid (HS3.out.trans h3); have HG4 := Lib.hid (mkeep (HT3.out.trans h3) HP0.out HG0.out (by decide) (by decide)); have HT4 := Lib.hid (HT3.out.trans h3); clear bx; have bx := cell_of_row _ _ 0 _ _ _ HG4.out; clear h2 h3)
   go_end0
   exact ⟨rfl, ve4, HP4.out, HS4.out⟩
  | err er jj =>
   have HX4 := Lib.hid h4
   have HC4 := Lib.hid (node_rule HP3.out 20 20 rfl (.func (.func 125) #[] #[.pointer (some ⟨g, 0, none⟩)]) 125 (.pointer (some ⟨g, 0, none⟩)) (.inr rfl) (fun w => enters_ Tryz.func125 (by kernel_rfl) rfl #[(.pointer (some ⟨g, 0, none⟩))] w) (T := [.word ⟨#[98, 101, 103, 105, 110]⟩, .rule .r_body, .word ⟨#[101, 110, 100]⟩]) (R := .r_statement) (by rw [one_of HI3.out]; rfl) (G_other_3.body HP3.out HG3.out) HNN.out HX4.out)
   clear h4
   go_wp2_with (go_at_call 33; (with_reducible refine Calls.mono HC4.out ?_); rintro e w4 ⟨rfl, ve4, h3⟩; have HS4 := Lib.hid (HS3.out.trans h3); clear h3)
   exact ⟨rfl, rfl, ve4, HS4.out⟩
 have hin3 : inL (cAt l i) [⟨#[98, 101, 103, 105, 110]⟩] = false := by simpa using hin3'
 clear hin3'
 have HI3 := Lib.hid hin3
 have HC3 := Lib.hid ((by have h := is_new HP2.out [⟨#[98, 101, 103, 105, 110]⟩] 1 [.string ⟨#[98, 101, 103, 105, 110]⟩] rfl rfl (by decide) (by decide); rw [HI3.out] at h; exact h))
 clear hin3
 go_wp2_with (go_at_call 47; (with_reducible refine Calls.mono HC3.out ?_); rintro e w3 ⟨rfl, hb⟩; have h3 : MStep p ve w2 ve w3 := PStep.below hb; have HP3 := Lib.hid (HP2.out.moved hb); have HS3 := Lib.hid (HS2.out.trans h3); have HG3 := Lib.hid (mkeep (HT2.out.trans h3) HP0.out HG0.out (by decide) (by decide)); have HT3 := Lib.hid (HT2.out.trans h3); clear bx; have bx := cell_of_row _ _ 0 _ _ _ HG3.out; clear hb h3)
 have h4 := HR0.out
 obtain ⟨_, hre⟩ := srun_fin HR0.out (q := .err (if i = l.length then 121 else 120) i) (by simp [sstep, (show RId.expand .r_statement (cAt l i) = none by simp only [RId.expand]; rw [if_neg (none_of HPRE.out _ (by simp)), if_neg (none_of HPRE.out _ (by simp)), if_neg (none_of HPRE.out _ (by simp)), if_neg (none_of HPRE.out _ (by simp)), if_neg (none_of HPRE.out _ (by simp)), if_neg (none_of HI1.out _ List.mem_cons_self), if_neg (none_of HI2.out _ List.mem_cons_self), if_neg (none_of HI3.out _ List.mem_cons_self)])])
 cases r with
 | ok i4 d4 out4 => cases hre
 | err er jj =>
  clear hre
  have HX4 := Lib.hid h4
  have HC4 := Lib.hid (fail_post HP3.out (show RId.expand .r_statement (cAt l i) = none by simp only [RId.expand]; rw [if_neg (none_of HPRE.out _ (by simp)), if_neg (none_of HPRE.out _ (by simp)), if_neg (none_of HPRE.out _ (by simp)), if_neg (none_of HPRE.out _ (by simp)), if_neg (none_of HPRE.out _ (by simp)), if_neg (none_of HI1.out _ List.mem_cons_self), if_neg (none_of HI2.out _ List.mem_cons_self), if_neg (none_of HI3.out _ List.mem_cons_self)]) HX4.out)
  clear h4
  go_wp2_with (go_at_call 39; (with_reducible refine Calls.mono HC4.out ?_); rintro e w4 ⟨rfl, ve4, h3⟩; have HS4 := Lib.hid (HS3.out.trans h3); clear h3)
  exact ⟨rfl, rfl, ve4, HS4.out⟩
end Go.Proofs.YtmjbpgnjgblnmaaGreat
namespace Go.Proofs.YtmjbpgnjgblnmaaGreat
open Go.RowKit Go.Proofs.YtmjbpgnjgblnmaaGreatW.PrintWords Go.Proofs.YtmjbpgnjgblnmaaGreatW.PrintLast Go.Proofs.YtmjbpgnjgblnmaaGreatW.PrintMore
theorem third {cc : ByteArray} (h : inL cc [⟨#[118, 97, 114]⟩, ⟨#[99, 111, 110, 115, 116]⟩, ⟨#[112, 114, 111, 99]⟩] = true) (h1 : inL cc [⟨#[118, 97, 114]⟩] = false) (h2 : inL cc [⟨#[99, 111, 110, 115, 116]⟩] = false) : cc = ⟨#[112, 114, 111, 99]⟩ := by
 have hm := (inL_iff _ _).1 h
 simp only [List.mem_cons, List.not_mem_nil, or_false] at hm
 rcases hm with hm | hm | hm
 ·exact absurd hm (none_of h1 _ List.mem_cons_self)
 ·exact absurd hm (none_of h2 _ List.mem_cons_self)
 ·exact hm
set_option maxRecDepth 100000 in
set_option maxHeartbeats 8000000 in
theorem g_declaration (l : List Tk) (N : Nat) (G_declaration_1 : GoodC l N 62 [.word ⟨#[118, 97, 114]⟩, .word ⟨#[64, 110, 97, 109, 101]⟩, .rule .r_names, .word ⟨#[58]⟩, .rule .r_kind, .word ⟨#[59]⟩]) (G_declaration_2 : GoodC l N 64 [.word ⟨#[99, 111, 110, 115, 116]⟩, .word ⟨#[64, 110, 97, 109, 101]⟩, .word ⟨#[61]⟩, .rule .r_expr, .word ⟨#[59]⟩]) (G_proc : Good l N 66 [.word ⟨#[112, 114, 111, 99]⟩, .word ⟨#[64, 110, 97, 109, 101]⟩, .rule .r_params, .rule .r_typed, .word ⟨#[59]⟩, .rule .r_block, .word ⟨#[59]⟩]) : ∀ n, n ≤ N + 1 → ∀ (W0 : World) (A : Option Addr) (c : Nat) (w : World) (p i : Nat) (d : Int) (out : List Ev) (ve : Value) (r : SRes), SAt W0 A c l w p i d out ve → srun l n ⟨[.rule .r_declaration], i, d, out⟩ = some r → inL (cAt l i) [⟨#[118, 97, 114]⟩, ⟨#[99, 111, 110, 115, 116]⟩, ⟨#[112, 114, 111, 99]⟩] = true → Calls Tryz.prog 50 #[.pointer (some ⟨p, 0, none⟩)] w (SPost W0 A c l p ve w r) := by
 intro n hn W0 A c w p i d out ve r H hr hpre
 show Calls Tryz.prog 50 _ w _
 have HNN := Lib.hid hn
 have hr0 : srun l n ⟨[.rule .r_declaration], i, d, out⟩ = some r := hr
 have HPRE := Lib.hid hpre
 have HR0 := Lib.hid hr0
 clear hn hr hr0 hpre
 obtain ⟨w0, hw0⟩ : ∃ V, w.alloc (.cells #[.pointer (some ⟨p, 0, none⟩)] 54) = V := ⟨_, rfl⟩
 have hb0 : Below w.heap.size w w0 := by rw [← hw0]; exact (Below.refl _ w).alloc (Nat.le_refl _) _
 have hg : w0.heap[w.heap.size]? = some (.cells #[.pointer (some ⟨p, 0, none⟩)] 54 (0, 0)) := by rw [← hw0]; exact World.alloc_heap_new _ _
 have HWB := Lib.hid hw0
 have HP0 := Lib.hid (H.moved hb0)
 have HS0 := Lib.hid (PStep.below hb0 : MStep p ve w ve w0)
 have HT0 := Lib.hid (PStep.refl p (.slice none 0 0) ve w0)
 obtain ⟨g, hge⟩ : ∃ g, w.heap.size = g := ⟨_, rfl⟩
 rw [hge] at hg
 have HGE := Lib.hid hge
 have HG0 := Lib.hid hg
 have bx := cell_of_row _ _ 0 _ _ _ hg
 clear hw0 hb0 hg hge H
 go_enter Tryz.func50, Tryz.ntmps50
 go_upto_region 2 with (fail)
 rw [HWB.out, HGE.out]
 by_cases hin1' : inL (cAt l i) [⟨#[118, 97, 114]⟩] = true
 ·have hin1 := hin1'
  clear hin1'
  have HI1 := Lib.hid hin1
  have HC1 := Lib.hid ((by have h := is_new HP0.out [⟨#[118, 97, 114]⟩] 1 [.string ⟨#[118, 97, 114]⟩] rfl rfl (by decide) (by decide); rw [HI1.out] at h; exact h))
  clear hin1
  go_wp2_with (go_at_call 47; (with_reducible refine Calls.mono HC1.out ?_); rintro e w1 ⟨rfl, hb⟩; have h3 : MStep p ve w0 ve w1 := PStep.below hb; have HP1 := Lib.hid (HP0.out.moved hb); have HS1 := Lib.hid (HS0.out.trans h3); have HG1 := Lib.hid (mkeep (HT0.out.trans h3) HP0.out HG0.out (by decide) (by decide)); have HT1 := Lib.hid (HT0.out.trans h3); clear bx; have bx := cell_of_row _ _ 0 _ _ _ HG1.out; clear hb h3)
  have h2 := HR0.out
  cases r with
  | ok i2 d2 out2 =>
   have HX2 := Lib.hid h2
   have HC2 := Lib.hid (node_rule HP1.out 3 3 rfl (.func (.func 62) #[] #[.pointer (some ⟨g, 0, none⟩)]) 62 (.pointer (some ⟨g, 0, none⟩)) (.inr rfl) (fun w => enters_ Tryz.func62 (by kernel_rfl) rfl #[(.pointer (some ⟨g, 0, none⟩))] w) (T := [.word ⟨#[118, 97, 114]⟩, .word ⟨#[64, 110, 97, 109, 101]⟩, .rule .r_names, .word ⟨#[58]⟩, .rule .r_kind, .word ⟨#[59]⟩]) (R := .r_declaration) (by rw [one_of HI1.out]; rfl) (G_declaration_1.body HP1.out HG1.out) HNN.out HX2.out)
   clear h2
   go_wp2_with (go_at_call 33; (with_reducible refine Calls.mono HC2.out ?_); rintro e w2 ⟨rfl, ve2, h2, h3⟩; have HP2 := Lib.hid h2; have HS2 := Lib.hid (HS1.out.trans h3); have HG2 := Lib.hid (mkeep (HT1.out.trans h3) HP0.out HG0.out (by decide) (by decide)); have HT2 := Lib.hid (HT1.out.trans h3); clear bx; have bx := cell_of_row _ _ 0 _ _ _ HG2.out; clear h2 h3)
   go_end0
   exact ⟨rfl, ve2, HP2.out, HS2.out⟩
  | err er jj =>
   have HX2 := Lib.hid h2
   have HC2 := Lib.hid (node_rule HP1.out 3 3 rfl (.func (.func 62) #[] #[.pointer (some ⟨g, 0, none⟩)]) 62 (.pointer (some ⟨g, 0, none⟩)) (.inr rfl) (fun w => enters_ Tryz.func62 (by kernel_rfl) rfl #[(.pointer (some ⟨g, 0, none⟩))] w) (T := [.word ⟨#[118, 97, 114]⟩, .word ⟨#[64, 110, 97, 109, 101]⟩, .rule .r_names, .word ⟨#[58]⟩, .rule .r_kind, .word ⟨#[59]⟩]) (R := .r_declaration) (by rw [one_of HI1.out]; rfl) (G_declaration_1.body HP1.out HG1.out) HNN.out HX2.out)
   clear h2
   go_wp2_with (go_at_call 33; (with_reducible refine Calls.mono HC2.out ?_); rintro e w2 ⟨rfl, ve2, h3⟩; have HS2 := Lib.hid (HS1.out.trans h3); clear h3)
   exact ⟨rfl, rfl, ve2, HS2.out⟩
 have hin1 : inL (cAt l i) [⟨#[118, 97, 114]⟩] = false := by simpa using hin1'
 clear hin1'
 have HI1 := Lib.hid hin1
 have HC1 := Lib.hid ((by have h := is_new HP0.out [⟨#[118, 97, 114]⟩] 1 [.string ⟨#[118, 97, 114]⟩] rfl rfl (by decide) (by decide); rw [HI1.out] at h; exact h))
 clear hin1
 go_wp2_with (go_at_call 47; (with_reducible refine Calls.mono HC1.out ?_); rintro e w1 ⟨rfl, hb⟩; have h3 : MStep p ve w0 ve w1 := PStep.below hb; have HP1 := Lib.hid (HP0.out.moved hb); have HS1 := Lib.hid (HS0.out.trans h3); have HG1 := Lib.hid (mkeep (HT0.out.trans h3) HP0.out HG0.out (by decide) (by decide)); have HT1 := Lib.hid (HT0.out.trans h3); clear bx; have bx := cell_of_row _ _ 0 _ _ _ HG1.out; clear hb h3)
 by_cases hin2' : inL (cAt l i) [⟨#[99, 111, 110, 115, 116]⟩] = true
 ·have hin2 := hin2'
  clear hin2'
  have HI2 := Lib.hid hin2
  have HC2 := Lib.hid ((by have h := is_new HP1.out [⟨#[99, 111, 110, 115, 116]⟩] 1 [.string ⟨#[99, 111, 110, 115, 116]⟩] rfl rfl (by decide) (by decide); rw [HI2.out] at h; exact h))
  clear hin2
  go_wp2_with (go_at_call 47; (with_reducible refine Calls.mono HC2.out ?_); rintro e w2 ⟨rfl, hb⟩; have h3 : MStep p ve w1 ve w2 := PStep.below hb; have HP2 := Lib.hid (HP1.out.moved hb); have HS2 := Lib.hid (HS1.out.trans h3); have HG2 := Lib.hid (mkeep (HT1.out.trans h3) HP0.out HG0.out (by decide) (by decide)); have HT2 := Lib.hid (HT1.out.trans h3); clear bx; have bx := cell_of_row _ _ 0 _ _ _ HG2.out; clear hb h3)
  have h3 := HR0.out
  cases r with
  | ok i3 d3 out3 =>
   have HX3 := Lib.hid h3
   have HC3 := Lib.hid (node_rule HP2.out 4 4 rfl (.func (.func 64) #[] #[.pointer (some ⟨g, 0, none⟩)]) 64 (.pointer (some ⟨g, 0, none⟩)) (.inr rfl) (fun w => enters_ Tryz.func64 (by kernel_rfl) rfl #[(.pointer (some ⟨g, 0, none⟩))] w) (T := [.word ⟨#[99, 111, 110, 115, 116]⟩, .word ⟨#[64, 110, 97, 109, 101]⟩, .word ⟨#[61]⟩, .rule .r_expr, .word ⟨#[59]⟩]) (R := .r_declaration) (by rw [one_of HI2.out]; rfl) (G_declaration_2.body HP2.out HG2.out) HNN.out HX3.out)
   clear h3
   go_wp2_with (go_at_call 33; (with_reducible refine Calls.mono HC3.out ?_); rintro e w3 ⟨rfl, ve3, h2, h3⟩; have HP3 := Lib.hid h2; have HS3 := Lib.hid (HS2.out.trans h3); have HG3 := Lib.hid (mkeep (HT2.out.trans h3) HP0.out HG0.out (by decide) (by decide)); have HT3 := Lib.hid (HT2.out.trans h3); clear bx; have bx := cell_of_row _ _ 0 _ _ _ HG3.out; clear h2 h3)
   go_end0
   exact ⟨rfl, ve3, HP3.out, HS3.out⟩
  | err er jj =>
   have HX3 := Lib.hid h3
   have HC3 := Lib.hid (node_rule HP2.out 4 4 rfl (.func (.func 64) #[] #[.pointer (some ⟨g, 0, none⟩)]) 64 (.pointer (some ⟨g, 0, none⟩)) (.inr rfl) (fun w => enters_ Tryz.func64 (by kernel_rfl) rfl #[(.pointer (some ⟨g, 0, none⟩))] w) (T := [.word ⟨#[99, 111, 110, 115, 116]⟩, .word ⟨#[64, 110, 97, 109, 101]⟩, .word ⟨#[61]⟩, .rule .r_expr, .word ⟨#[59]⟩]) (R := .r_declaration) (by rw [one_of HI2.out]; rfl) (G_declaration_2.body HP2.out HG2.out) HNN.out HX3.out)
   clear h3
   go_wp2_with (go_at_call 33; (with_reducible refine Calls.mono HC3.out ?_); rintro e w3 ⟨rfl, ve3, h3⟩; have HS3 := Lib.hid (HS2.out.trans h3); clear h3)
   exact ⟨rfl, rfl, ve3, HS3.out⟩
 have hin2 : inL (cAt l i) [⟨#[99, 111, 110, 115, 116]⟩] = false := by simpa using hin2'
 clear hin2'
 have HI2 := Lib.hid hin2
 have HC2 := Lib.hid ((by have h := is_new HP1.out [⟨#[99, 111, 110, 115, 116]⟩] 1 [.string ⟨#[99, 111, 110, 115, 116]⟩] rfl rfl (by decide) (by decide); rw [HI2.out] at h; exact h))
 clear hin2
 go_wp2_with (go_at_call 47; (with_reducible refine Calls.mono HC2.out ?_); rintro e w2 ⟨rfl, hb⟩; have h3 : MStep p ve w1 ve w2 := PStep.below hb; have HP2 := Lib.hid (HP1.out.moved hb); have HS2 := Lib.hid (HS1.out.trans h3); have HG2 := Lib.hid (mkeep (HT1.out.trans h3) HP0.out HG0.out (by decide) (by decide)); have HT2 := Lib.hid (HT1.out.trans h3); clear bx; have bx := cell_of_row _ _ 0 _ _ _ HG2.out; clear hb h3)
 have h3 := HR0.out
 cases r with
 | ok i3 d3 out3 =>
  have HX3 := Lib.hid h3
  have HC3 := Lib.hid (node_rule HP2.out 5 5 rfl (.func (.func 66) #[.pointer (some ⟨p, 0, none⟩)] #[]) 66 (.pointer (some ⟨p, 0, none⟩)) (.inl rfl) (fun w => enters_ Tryz.func66 (by kernel_rfl) rfl #[(.pointer (some ⟨p, 0, none⟩))] w) (T := [.word ⟨#[112, 114, 111, 99]⟩, .word ⟨#[64, 110, 97, 109, 101]⟩, .rule .r_params, .rule .r_typed, .word ⟨#[59]⟩, .rule .r_block, .word ⟨#[59]⟩]) (R := .r_declaration) (by rw [third HPRE.out HI1.out HI2.out]; rfl) (G_proc.body) HNN.out HX3.out)
  clear h3
  go_wp2_with (go_at_call 33; (with_reducible refine Calls.mono HC3.out ?_); rintro e w3 ⟨rfl, ve3, h2, h3⟩; have HP3 := Lib.hid h2; have HS3 := Lib.hid (HS2.out.trans h3); have HG3 := Lib.hid (mkeep (HT2.out.trans h3) HP0.out HG0.out (by decide) (by decide)); have HT3 := Lib.hid (HT2.out.trans h3); clear bx; have bx := cell_of_row _ _ 0 _ _ _ HG3.out; clear h2 h3)
  go_end0
  exact ⟨rfl, ve3, HP3.out, HS3.out⟩
 | err er jj =>
  have HX3 := Lib.hid h3
  have HC3 := Lib.hid (node_rule HP2.out 5 5 rfl (.func (.func 66) #[.pointer (some ⟨p, 0, none⟩)] #[]) 66 (.pointer (some ⟨p, 0, none⟩)) (.inl rfl) (fun w => enters_ Tryz.func66 (by kernel_rfl) rfl #[(.pointer (some ⟨p, 0, none⟩))] w) (T := [.word ⟨#[112, 114, 111, 99]⟩, .word ⟨#[64, 110, 97, 109, 101]⟩, .rule .r_params, .rule .r_typed, .word ⟨#[59]⟩, .rule .r_block, .word ⟨#[59]⟩]) (R := .r_declaration) (by rw [third HPRE.out HI1.out HI2.out]; rfl) (G_proc.body) HNN.out HX3.out)
  clear h3
  go_wp2_with (go_at_call 33; (with_reducible refine Calls.mono HC3.out ?_); rintro e w3 ⟨rfl, ve3, h3⟩; have HS3 := Lib.hid (HS2.out.trans h3); clear h3)
  exact ⟨rfl, rfl, ve3, HS3.out⟩
end Go.Proofs.YtmjbpgnjgblnmaaGreat
