/- What the claim stands on: part Jg. -/
import Derived.Test.YtmjbpgnjgblnmaaJf
set_option linter.unusedVariables false
set_option linter.unusedSimpArgs false
namespace Go.Proofs.Ytmjbpgnjgblnmaa
open Go.RowKit Go.Proofs.YtmjbpgnjgblnmaaW.PrintWords Go.Proofs.YtmjbpgnjgblnmaaW.PrintLast Go.Proofs.YtmjbpgnjgblnmaaW.PrintMore
set_option maxRecDepth 100000 in
set_option maxHeartbeats 8000000 in
theorem g_expr_1 (l : List Tk) (N : Nat) (G_rel : Good l N 117 [.rule .r_rel]) : GoodC l N 116 [.rule .r_rel, .rule .r_rels] := by
 intro n hn W0 A c w0 p g i d out ve r H hg hr
 show Calls Try.prog 116 _ w0 _
 have HP0 := Lib.hid H
 have HG0 := Lib.hid hg
 have HNN := Lib.hid hn
 have HS0 := Lib.hid (PStep.refl p (.slice none 0 0) ve w0)
 have HT0 := HS0
 have bx := cell_of_row _ _ 0 _ _ _ hg
 have hr0 : srun l n ⟨[.rule .r_rel, .rule .r_rels], i, d, out⟩ = some r := hr
 clear H hg hn
 have h1 := hr0
 cases r with
 | ok i1 d1 out1 =>
  have HX1 := Lib.hid h1
  have HC1 := Lib.hid (row_new HP0.out (.func (.func 117) #[.pointer (some ⟨p, 0, none⟩)] #[]) 117 (.pointer (some ⟨p, 0, none⟩)) (.inl rfl) (fun w => enters_ Try.func117 (by kernel_rfl) rfl #[(.pointer (some ⟨p, 0, none⟩))] w) [⟨#[97, 110, 100]⟩, ⟨#[111, 114]⟩] 2 [.string ⟨#[97, 110, 100]⟩, .string ⟨#[111, 114]⟩] rfl rfl (by decide) (by decide) (T := [.rule .r_rel]) (R := .r_rels) (fun cc => row_rels cc) (G_rel.body) HNN.out HX1.out)
  clear h1 hr
  go_enter Try.func116, Try.ntmps116
  go_wp2_with (first
   | (go_at_call 96; (with_reducible refine Calls.mono HC1.out ?_); rintro e w1 ⟨rfl, ve1, h2, h3⟩; have HP1 := Lib.hid h2; have HS1 := Lib.hid (HS0.out.trans h3); have HG1 := Lib.hid (mkeep (HT0.out.trans h3) HP0.out HG0.out (by decide) (by decide)); have HT1 := Lib.hid (HT0.out.trans h3); clear bx; have bx := cell_of_row _ _ 0 _ _ _ HG1.out; clear h2 h3))
  go_end0
  exact ⟨rfl, ve1, HP1.out, HS1.out⟩
 | err er jj =>
  have HX1 := Lib.hid h1
  have HC1 := Lib.hid (row_new HP0.out (.func (.func 117) #[.pointer (some ⟨p, 0, none⟩)] #[]) 117 (.pointer (some ⟨p, 0, none⟩)) (.inl rfl) (fun w => enters_ Try.func117 (by kernel_rfl) rfl #[(.pointer (some ⟨p, 0, none⟩))] w) [⟨#[97, 110, 100]⟩, ⟨#[111, 114]⟩] 2 [.string ⟨#[97, 110, 100]⟩, .string ⟨#[111, 114]⟩] rfl rfl (by decide) (by decide) (T := [.rule .r_rel]) (R := .r_rels) (fun cc => row_rels cc) (G_rel.body) HNN.out HX1.out)
  clear h1 hr
  go_enter Try.func116, Try.ntmps116
  go_wp2_with (first
   | (go_at_call 96; (with_reducible refine Calls.mono HC1.out ?_); rintro e w1 ⟨rfl, ve1, h3⟩; have HS1 := Lib.hid (HS0.out.trans h3); clear h3))
  exact ⟨rfl, rfl, ve1, HS1.out⟩
set_option maxRecDepth 100000 in
set_option maxHeartbeats 8000000 in
theorem g_expr (l : List Tk) (N : Nat) (G_expr_1 : GoodC l N 116 [.rule .r_rel, .rule .r_rels]) : Good l (N + 1) 93 [.rule .r_expr] := by
 intro n0 hn W0 A c w p i d out ve r H hr
 show Calls Try.prog 93 _ w _
 obtain ⟨_, n, rfl, h1⟩ := srun_on hr (s' := ⟨[.rule .r_rel, .rule .r_rels] ++ [.fin 21], i, d + 1, out ++ [evOf (1, 21)]⟩) rfl
 have HNN : Hid (n ≤ N) := Lib.hid (by omega)
 clear hn
 obtain ⟨w0, hw0⟩ : ∃ V, w.alloc (.cells #[.pointer (some ⟨p, 0, none⟩)] 83) = V := ⟨_, rfl⟩
 have hb0 : Below w.heap.size w w0 := by rw [← hw0]; exact (Below.refl _ w).alloc (Nat.le_refl _) _
 have hg : w0.heap[w.heap.size]? = some (.cells #[.pointer (some ⟨p, 0, none⟩)] 83 (0, 0)) := by rw [← hw0]; exact World.alloc_heap_new _ _
 have HWB := Lib.hid hw0
 have HP0 := Lib.hid (H.moved hb0)
 have HS0 := Lib.hid (PStep.below hb0 : MStep p ve w ve w0)
 have HT0 := Lib.hid (PStep.refl p (.slice none 0 0) ve w0)
 obtain ⟨g, hge⟩ : ∃ g, w.heap.size = g := ⟨_, rfl⟩
 rw [hge] at hg
 have HGE := Lib.hid hge
 have HG0 := Lib.hid hg
 have bx := cell_of_row _ _ 0 _ _ _ hg
 clear hw0 hb0 hg hge H
 cases r with
 | ok i1 d1 out1 =>
  have HX1 := Lib.hid h1
  have HC1 := Lib.hid (node_new HP0.out 21 21 rfl (.func (.func 116) #[] #[.pointer (some ⟨g, 0, none⟩)]) 116 (.pointer (some ⟨g, 0, none⟩)) (.inr rfl) (fun w => enters_ Try.func116 (by kernel_rfl) rfl #[(.pointer (some ⟨g, 0, none⟩))] w) (T := [.rule .r_rel, .rule .r_rels]) (G_expr_1.body HP0.out HG0.out) HNN.out HX1.out)
  clear h1 hr
  go_enter Try.func93, Try.ntmps93
  go_upto_region 1 with (fail)
  rw [HWB.out, HGE.out]
  go_wp2_with (first
   | (go_at_call 55; (with_reducible refine Calls.mono HC1.out ?_); rintro e w1 ⟨rfl, ve1, h2, h3⟩; have HP1 := Lib.hid h2; have HS1 := Lib.hid (HS0.out.trans h3); have HG1 := Lib.hid (mkeep (HT0.out.trans h3) HP0.out HG0.out (by decide) (by decide)); have HT1 := Lib.hid (HT0.out.trans h3); clear bx; have bx := cell_of_row _ _ 0 _ _ _ HG1.out; clear h2 h3))
  go_end0
  exact ⟨rfl, ve1, HP1.out, HS1.out⟩
 | err er jj =>
  have HX1 := Lib.hid h1
  have HC1 := Lib.hid (node_new HP0.out 21 21 rfl (.func (.func 116) #[] #[.pointer (some ⟨g, 0, none⟩)]) 116 (.pointer (some ⟨g, 0, none⟩)) (.inr rfl) (fun w => enters_ Try.func116 (by kernel_rfl) rfl #[(.pointer (some ⟨g, 0, none⟩))] w) (T := [.rule .r_rel, .rule .r_rels]) (G_expr_1.body HP0.out HG0.out) HNN.out HX1.out)
  clear h1 hr
  go_enter Try.func93, Try.ntmps93
  go_upto_region 1 with (fail)
  rw [HWB.out, HGE.out]
  go_wp2_with (first
   | (go_at_call 55; (with_reducible refine Calls.mono HC1.out ?_); rintro e w1 ⟨rfl, ve1, h3⟩; have HS1 := Lib.hid (HS0.out.trans h3); clear h3))
  exact ⟨rfl, rfl, ve1, HS1.out⟩
set_option maxRecDepth 100000 in
set_option maxHeartbeats 8000000 in
theorem g_statement_3 (l : List Tk) (N : Nat) (G_expr : Good l N 93 [.rule .r_expr]) (G_body : Good l N 75 [.rule .r_body]) : GoodC l N 124 [.word ⟨#[119, 104, 105, 108, 101]⟩, .rule .r_expr, .word ⟨#[100, 111]⟩, .rule .r_body, .word ⟨#[101, 110, 100]⟩] := by
 intro n hn W0 A c w0 p g i d out ve r H hg hr
 show Calls Try.prog 124 _ w0 _
 have HP0 := Lib.hid H
 have HG0 := Lib.hid hg
 have HNN := Lib.hid hn
 have HS0 := Lib.hid (PStep.refl p (.slice none 0 0) ve w0)
 have HT0 := HS0
 have bx := cell_of_row _ _ 0 _ _ _ hg
 have hr0 : srun l n ⟨([.word ⟨#[119, 104, 105, 108, 101]⟩] ++ ([.rule .r_expr] ++ ([.word ⟨#[100, 111]⟩] ++ ([.rule .r_body] ++ [.word ⟨#[101, 110, 100]⟩])))), i, d, out⟩ = some r := hr
 clear H hg hn
 rcases srun_app l n [.word ⟨#[119, 104, 105, 108, 101]⟩] ([.rule .r_expr] ++ ([.word ⟨#[100, 111]⟩] ++ ([.rule .r_body] ++ [.word ⟨#[101, 110, 100]⟩]))) i d out r hr0 with ⟨er, jj, rfl, h1⟩ | ⟨i1, d1, out1, h1, hr1⟩
 ·skip
  have HX1 := Lib.hid h1
  have HC1 := Lib.hid (words_new HP0.out [⟨#[119, 104, 105, 108, 101]⟩] 1 [.string ⟨#[119, 104, 105, 108, 101]⟩] rfl rfl (by decide) (by decide) HX1.out)
  clear h1 hr
  go_enter Try.func124, Try.ntmps124
  go_wp2_with (first
   | (go_at_call 58; (with_reducible refine Calls.mono HC1.out ?_); rintro e w1 ⟨rfl, ve1, h3⟩; have HS1 := Lib.hid (HS0.out.trans h3); clear h3))
  exact ⟨rfl, rfl, ve1, HS1.out⟩
 ·skip
  rcases srun_app l n [.rule .r_expr] ([.word ⟨#[100, 111]⟩] ++ ([.rule .r_body] ++ [.word ⟨#[101, 110, 100]⟩])) i1 d1 out1 r hr1 with ⟨er, jj, rfl, h2⟩ | ⟨i2, d2, out2, h2, hr2⟩
  ·skip
   have HX1 := Lib.hid h1; have HX2 := Lib.hid h2
   have HC1 := Lib.hid (words_new HP0.out [⟨#[119, 104, 105, 108, 101]⟩] 1 [.string ⟨#[119, 104, 105, 108, 101]⟩] rfl rfl (by decide) (by decide) HX1.out)
   clear h1 h2 hr
   go_enter Try.func124, Try.ntmps124
   go_wp2_with (first
    | (go_at_call 58; (with_reducible refine Calls.mono HC1.out ?_); rintro e w1 ⟨rfl, ve1, h2, h3⟩; have HP1 := Lib.hid h2; have HS1 := Lib.hid (HS0.out.trans h3); have HG1 := Lib.hid (mkeep (HT0.out.trans h3) HP0.out HG0.out (by decide) (by decide)); have HT1 := Lib.hid (HT0.out.trans h3); clear bx; have bx := cell_of_row _ _ 0 _ _ _ HG1.out; have HC2 := Lib.hid (G_expr n HNN.out W0 A c w1 p i1 d1 out1 ve1 _ HP1.out HX2.out); clear h2 h3)
    | (go_at_call 93; (with_reducible refine Calls.mono HC2.out ?_); rintro e w2 ⟨rfl, ve2, h3⟩; have HS2 := Lib.hid (HS1.out.trans h3); clear h3))
   exact ⟨rfl, rfl, ve2, HS2.out⟩
  ·skip
   rcases srun_app l n [.word ⟨#[100, 111]⟩] ([.rule .r_body] ++ [.word ⟨#[101, 110, 100]⟩]) i2 d2 out2 r hr2 with ⟨er, jj, rfl, h3⟩ | ⟨i3, d3, out3, h3, hr3⟩
   ·skip
    have HX1 := Lib.hid h1; have HX2 := Lib.hid h2; have HX3 := Lib.hid h3
    have HC1 := Lib.hid (words_new HP0.out [⟨#[119, 104, 105, 108, 101]⟩] 1 [.string ⟨#[119, 104, 105, 108, 101]⟩] rfl rfl (by decide) (by decide) HX1.out)
    clear h1 h2 h3 hr
    go_enter Try.func124, Try.ntmps124
    go_wp2_with (first
     | (go_at_call 58; (with_reducible refine Calls.mono HC1.out ?_); rintro e w1 ⟨rfl, ve1, h2, h3⟩; have HP1 := Lib.hid h2; have HS1 := Lib.hid (HS0.out.trans h3); have HG1 := Lib.hid (mkeep (HT0.out.trans h3) HP0.out HG0.out (by decide) (by decide)); have HT1 := Lib.hid (HT0.out.trans h3); clear bx; have bx := cell_of_row _ _ 0 _ _ _ HG1.out; have HC2 := Lib.hid (G_expr n HNN.out W0 A c w1 p i1 d1 out1 ve1 _ HP1.out HX2.out); clear h2 h3)
     | (go_at_call 93; (with_reducible refine Calls.mono HC2.out ?_); rintro e w2 ⟨rfl, ve2, h2, h3⟩; have HP2 := Lib.hid h2; have HS2 := Lib.hid (HS1.out.trans h3); have HG2 := Lib.hid (mkeep (HT1.out.trans h3) HP0.out HG0.out (by decide) (by decide)); have HT2 := Lib.hid (HT1.out.trans h3); clear bx; have bx := cell_of_row _ _ 0 _ _ _ HG2.out; have HC3 := Lib.hid (words_new HP2.out [⟨#[100, 111]⟩] 1 [.string ⟨#[100, 111]⟩] rfl rfl (by decide) (by decide) HX3.out); clear h2 h3)
     | (go_at_call 58; (with_reducible refine Calls.mono HC3.out ?_); rintro e w3 ⟨rfl, ve3, h3⟩; have HS3 := Lib.hid (HS2.out.trans h3); clear h3))
    exact ⟨rfl, rfl, ve3, HS3.out⟩
   ·skip
    rcases srun_app l n [.rule .r_body] [.word ⟨#[101, 110, 100]⟩] i3 d3 out3 r hr3 with ⟨er, jj, rfl, h4⟩ | ⟨i4, d4, out4, h4, hr4⟩
    ·skip
     have HX1 := Lib.hid h1; have HX2 := Lib.hid h2; have HX3 := Lib.hid h3; have HX4 := Lib.hid h4
     have HC1 := Lib.hid (words_new HP0.out [⟨#[119, 104, 105, 108, 101]⟩] 1 [.string ⟨#[119, 104, 105, 108, 101]⟩] rfl rfl (by decide) (by decide) HX1.out)
     clear h1 h2 h3 h4 hr
     go_enter Try.func124, Try.ntmps124
     go_wp2_with (first
      | (go_at_call 58; (with_reducible refine Calls.mono HC1.out ?_); rintro e w1 ⟨rfl, ve1, h2, h3⟩; have HP1 := Lib.hid h2; have HS1 := Lib.hid (HS0.out.trans h3); have HG1 := Lib.hid (mkeep (HT0.out.trans h3) HP0.out HG0.out (by decide) (by decide)); have HT1 := Lib.hid (HT0.out.trans h3); clear bx; have bx := cell_of_row _ _ 0 _ _ _ HG1.out; have HC2 := Lib.hid (G_expr n HNN.out W0 A c w1 p i1 d1 out1 ve1 _ HP1.out HX2.out); clear h2 h3)
      | (go_at_call 93; (with_reducible refine Calls.mono HC2.out ?_); rintro e w2 ⟨rfl, ve2, h2, h3⟩; have HP2 := Lib.hid h2; have HS2 := Lib.hid (HS1.out.trans h3); have HG2 := Lib.hid (mkeep (HT1.out.trans h3) HP0.out HG0.out (by decide) (by decide)); have HT2 := Lib.hid (HT1.out.trans h3); clear bx; have bx := cell_of_row _ _ 0 _ _ _ HG2.out; have HC3 := Lib.hid (words_new HP2.out [⟨#[100, 111]⟩] 1 [.string ⟨#[100, 111]⟩] rfl rfl (by decide) (by decide) HX3.out); clear h2 h3)
      | (go_at_call 58; (with_reducible refine Calls.mono HC3.out ?_); rintro e w3 ⟨rfl, ve3, h2, h3⟩; have HP3 := Lib.hid h2; have HS3 := Lib.hid (HS2.out.trans h3); have HG3 := Lib.hid (mkeep (HT2.out.trans h3) HP0.out HG0.out (by decide) (by decide)); have HT3 := Lib.hid (HT2.out.trans h3); clear bx; have bx := cell_of_row _ _ 0 _ _ _ HG3.out; have HC4 := Lib.hid (G_body n HNN.out W0 A c w3 p i3 d3 out3 ve3 _ HP3.out HX4.out); clear h2 h3)
      | (go_at_call 75; (with_reducible refine Calls.mono HC4.out ?_); rintro e w4 ⟨rfl, ve4, h3⟩; have HS4 := Lib.hid (HS3.out.trans h3); clear h3))
     exact ⟨rfl, rfl, ve4, HS4.out⟩
    ·skip
     have h5 := hr4
     cases r with
     | ok i5 d5 out5 =>
      have HX1 := Lib.hid h1; have HX2 := Lib.hid h2; have HX3 := Lib.hid h3; have HX4 := Lib.hid h4; have HX5 := Lib.hid h5
      have HC1 := Lib.hid (words_new HP0.out [⟨#[119, 104, 105, 108, 101]⟩] 1 [.string ⟨#[119, 104, 105, 108, 101]⟩] rfl rfl (by decide) (by decide) HX1.out)
      clear h1 h2 h3 h4 h5 hr
      go_enter Try.func124, Try.ntmps124
      go_wp2_with (first
       | (go_at_call 58; (with_reducible refine Calls.mono HC1.out ?_); rintro e w1 ⟨rfl, ve1, h2, h3⟩; have HP1 := Lib.hid h2; have HS1 := Lib.hid (HS0.out.trans h3); have HG1 := Lib.hid (mkeep (HT0.out.trans h3) HP0.out HG0.out (by decide) (by decide)); have HT1 := Lib.hid (HT0.out.trans h3); clear bx; have bx := cell_of_row _ _ 0 _ _ _ HG1.out; have HC2 := Lib.hid (G_expr n HNN.out W0 A c w1 p i1 d1 out1 ve1 _ HP1.out HX2.out); clear h2 h3)
       | (go_at_call 93; (with_reducible refine Calls.mono HC2.out ?_); rintro e w2 ⟨rfl, ve2, h2, h3⟩; have HP2 := Lib.hid h2; have HS2 := Lib.hid (HS1.out.trans h3); have HG2 := Lib.hid (mkeep (HT1.out.trans h3) HP0.out HG0.out (by decide) (by decide)); have HT2 := Lib.hid (HT1.out.trans h3); clear bx; have bx := cell_of_row _ _ 0 _ _ _ HG2.out; have HC3 := Lib.hid (words_new HP2.out [⟨#[100, 111]⟩] 1 [.string ⟨#[100, 111]⟩] rfl rfl (by decide) (by decide) HX3.out); clear h2 h3)
       | (go_at_call 58; (with_reducible refine Calls.mono HC3.out ?_); rintro e w3 ⟨rfl, ve3, h2, h3⟩; have HP3 := Lib.hid h2; have HS3 := Lib.hid (HS2.out.trans h3); have HG3 := Lib.hid (mkeep (HT2.out.trans h3) HP0.out HG0.out (by decide) (by decide)); have HT3 := Lib.hid (HT2.out.trans h3); clear bx; have bx := cell_of_row _ _ 0 _ _ _ HG3.out; have HC4 := Lib.hid (G_body n HNN.out W0 A c w3 p i3 d3 out3 ve3 _ HP3.out HX4.out); clear h2 h3)
       | (go_at_call 75; (with_reducible refine Calls.mono HC4.out ?_); rintro e w4 ⟨rfl, ve4, h2, h3⟩; have HP4 := Lib.hid h2; have HS4 := Lib.hid (HS3.out.trans h3); have HG4 := Lib.hid (mkeep (HT3.out.trans h3) HP0.out HG0.out (by decide) (by decide)); have HT4 := Lib.hid (HT3.out.trans h3); clear bx; have bx := cell_of_row _ _ 0 _ _ _ HG4.out; have HC5 := Lib.hid (words_new HP4.out [⟨#[101, 110, 100]⟩] 1 [.string ⟨#[101, 110, 100]⟩] rfl rfl (by decide) (by decide) HX5.out); clear h2 h3)
       | (go_at_call 58; (with_reducible refine Calls.mono HC5.out ?_); rintro e w5 ⟨rfl, ve5, h2, h3⟩; have HP5 := Lib.hid h2; have HS5 := Lib.hid (HS4.out.trans h3); have HG5 := Lib.hid (mkeep (HT4.out.trans h3) HP0.out HG0.out (by decide) (by decide)); have HT5 := Lib.hid (HT4.out.trans h3); clear bx; have bx := cell_of_row _ _ 0 _ _ _ HG5.out; clear h2 h3))
      go_end0
      exact ⟨rfl, ve5, HP5.out, HS5.out⟩
     | err er jj =>
      have HX1 := Lib.hid h1; have HX2 := Lib.hid h2; have HX3 := Lib.hid h3; have HX4 := Lib.hid h4; have HX5 := Lib.hid h5
      have HC1 := Lib.hid (words_new HP0.out [⟨#[119, 104, 105, 108, 101]⟩] 1 [.string ⟨#[119, 104, 105, 108, 101]⟩] rfl rfl (by decide) (by decide) HX1.out)
      clear h1 h2 h3 h4 h5 hr
      go_enter Try.func124, Try.ntmps124
      go_wp2_with (first
       | (go_at_call 58; (with_reducible refine Calls.mono HC1.out ?_); rintro e w1 ⟨rfl, ve1, h2, h3⟩; have HP1 := Lib.hid h2; have HS1 := Lib.hid (HS0.out.trans h3); have HG1 := Lib.hid (mkeep (HT0.out.trans h3) HP0.out HG0.out (by decide) (by decide)); have HT1 := Lib.hid (HT0.out.trans h3); clear bx; have bx := cell_of_row _ _ 0 _ _ _ HG1.out; have HC2 := Lib.hid (G_expr n HNN.out W0 A c w1 p i1 d1 out1 ve1 _ HP1.out HX2.out); clear h2 h3)
       | (go_at_call 93; (with_reducible refine Calls.mono HC2.out ?_); rintro e w2 ⟨rfl, ve2, h2, h3⟩; have HP2 := Lib.hid h2; have HS2 := Lib.hid (HS1.out.trans h3); have HG2 := Lib.hid (mkeep (HT1.out.trans h3) HP0.out HG0.out (by decide) (by decide)); have HT2 := Lib.hid (HT1.out.trans h3); clear bx; have bx := cell_of_row _ _ 0 _ _ _ HG2.out; have HC3 := Lib.hid (words_new HP2.out [⟨#[100, 111]⟩] 1 [.string ⟨#[100, 111]⟩] rfl rfl (by decide) (by decide) HX3.out); clear h2 h3)
       | (go_at_call 58; (with_reducible refine Calls.mono HC3.out ?_); rintro e w3 ⟨rfl, ve3, h2, h3⟩; have HP3 := Lib.hid h2; have HS3 := Lib.hid (HS2.out.trans h3); have HG3 := Lib.hid (mkeep (HT2.out.trans h3) HP0.out HG0.out (by decide) (by decide)); have HT3 := Lib.hid (HT2.out.trans h3); clear bx; have bx := cell_of_row _ _ 0 _ _ _ HG3.out; have HC4 := Lib.hid (G_body n HNN.out W0 A c w3 p i3 d3 out3 ve3 _ HP3.out HX4.out); clear h2 h3)
       | (go_at_call 75; (with_reducible refine Calls.mono HC4.out ?_); rintro e w4 ⟨rfl, ve4, h2, h3⟩; have HP4 := Lib.hid h2; have HS4 := Lib.hid (HS3.out.trans h3); have HG4 := Lib.hid (mkeep (HT3.out.trans h3) HP0.out HG0.out (by decide) (by decide)); have HT4 := Lib.hid (HT3.out.trans h3); clear bx; have bx := cell_of_row _ _ 0 _ _ _ HG4.out; have HC5 := Lib.hid (words_new HP4.out [⟨#[101, 110, 100]⟩] 1 [.string ⟨#[101, 110, 100]⟩] rfl rfl (by decide) (by decide) HX5.out); clear h2 h3)
       | (go_at_call 58; (with_reducible refine Calls.mono HC5.out ?_); rintro e w5 ⟨rfl, ve5, h3⟩; have HS5 := Lib.hid (HS4.out.trans h3); clear h3))
      exact ⟨rfl, rfl, ve5, HS5.out⟩
set_option maxRecDepth 100000 in
set_option maxHeartbeats 8000000 in
theorem g_sum_1 (l : List Tk) (N : Nat) (G_term : Good l N 155 [.rule .r_term]) : GoodC l N 154 [.rule .r_term, .rule .r_terms] := by
 intro n hn W0 A c w0 p g i d out ve r H hg hr
 show Calls Try.prog 154 _ w0 _
 have HP0 := Lib.hid H
 have HG0 := Lib.hid hg
 have HNN := Lib.hid hn
 have HS0 := Lib.hid (PStep.refl p (.slice none 0 0) ve w0)
 have HT0 := HS0
 have bx := cell_of_row _ _ 0 _ _ _ hg
 have hr0 : srun l n ⟨[.rule .r_term, .rule .r_terms], i, d, out⟩ = some r := hr
 clear H hg hn
 have h1 := hr0
 cases r with
 | ok i1 d1 out1 =>
  have HX1 := Lib.hid h1
  have HC1 := Lib.hid (row_new HP0.out (.func (.func 155) #[.pointer (some ⟨p, 0, none⟩)] #[]) 155 (.pointer (some ⟨p, 0, none⟩)) (.inl rfl) (fun w => enters_ Try.func155 (by kernel_rfl) rfl #[(.pointer (some ⟨p, 0, none⟩))] w) [⟨#[43]⟩, ⟨#[45]⟩] 2 [.string ⟨#[43]⟩, .string ⟨#[45]⟩] rfl rfl (by decide) (by decide) (T := [.rule .r_term]) (R := .r_terms) (fun cc => row_terms cc) (G_term.body) HNN.out HX1.out)
  clear h1 hr
  go_enter Try.func154, Try.ntmps154
  go_wp2_with (first
   | (go_at_call 96; (with_reducible refine Calls.mono HC1.out ?_); rintro e w1 ⟨rfl, ve1, h2, h3⟩; have HP1 := Lib.hid h2; have HS1 := Lib.hid (HS0.out.trans h3); have HG1 := Lib.hid (mkeep (HT0.out.trans h3) HP0.out HG0.out (by decide) (by decide)); have HT1 := Lib.hid (HT0.out.trans h3); clear bx; have bx := cell_of_row _ _ 0 _ _ _ HG1.out; clear h2 h3))
  go_end0
  exact ⟨rfl, ve1, HP1.out, HS1.out⟩
 | err er jj =>
  have HX1 := Lib.hid h1
  have HC1 := Lib.hid (row_new HP0.out (.func (.func 155) #[.pointer (some ⟨p, 0, none⟩)] #[]) 155 (.pointer (some ⟨p, 0, none⟩)) (.inl rfl) (fun w => enters_ Try.func155 (by kernel_rfl) rfl #[(.pointer (some ⟨p, 0, none⟩))] w) [⟨#[43]⟩, ⟨#[45]⟩] 2 [.string ⟨#[43]⟩, .string ⟨#[45]⟩] rfl rfl (by decide) (by decide) (T := [.rule .r_term]) (R := .r_terms) (fun cc => row_terms cc) (G_term.body) HNN.out HX1.out)
  clear h1 hr
  go_enter Try.func154, Try.ntmps154
  go_wp2_with (first
   | (go_at_call 96; (with_reducible refine Calls.mono HC1.out ?_); rintro e w1 ⟨rfl, ve1, h3⟩; have HS1 := Lib.hid (HS0.out.trans h3); clear h3))
  exact ⟨rfl, rfl, ve1, HS1.out⟩
set_option maxRecDepth 100000 in
set_option maxHeartbeats 8000000 in
theorem g_sum (l : List Tk) (N : Nat) (G_sum_1 : GoodC l N 154 [.rule .r_term, .rule .r_terms]) : Good l (N + 1) 141 [.rule .r_sum] := by
 intro n0 hn W0 A c w p i d out ve r H hr
 show Calls Try.prog 141 _ w _
 obtain ⟨_, n, rfl, h1⟩ := srun_on hr (s' := ⟨[.rule .r_term, .rule .r_terms] ++ [.fin 23], i, d + 1, out ++ [evOf (1, 23)]⟩) rfl
 have HNN : Hid (n ≤ N) := Lib.hid (by omega)
 clear hn
 obtain ⟨w0, hw0⟩ : ∃ V, w.alloc (.cells #[.pointer (some ⟨p, 0, none⟩)] 83) = V := ⟨_, rfl⟩
 have hb0 : Below w.heap.size w w0 := by rw [← hw0]; exact (Below.refl _ w).alloc (Nat.le_refl _) _
 have hg : w0.heap[w.heap.size]? = some (.cells #[.pointer (some ⟨p, 0, none⟩)] 83 (0, 0)) := by rw [← hw0]; exact World.alloc_heap_new _ _
 have HWB := Lib.hid hw0
 have HP0 := Lib.hid (H.moved hb0)
 have HS0 := Lib.hid (PStep.below hb0 : MStep p ve w ve w0)
 have HT0 := Lib.hid (PStep.refl p (.slice none 0 0) ve w0)
 obtain ⟨g, hge⟩ : ∃ g, w.heap.size = g := ⟨_, rfl⟩
 rw [hge] at hg
 have HGE := Lib.hid hge
 have HG0 := Lib.hid hg
 have bx := cell_of_row _ _ 0 _ _ _ hg
 clear hw0 hb0 hg hge H
 cases r with
 | ok i1 d1 out1 =>
  have HX1 := Lib.hid h1
  have HC1 := Lib.hid (node_new HP0.out 23 23 rfl (.func (.func 154) #[] #[.pointer (some ⟨g, 0, none⟩)]) 154 (.pointer (some ⟨g, 0, none⟩)) (.inr rfl) (fun w => enters_ Try.func154 (by kernel_rfl) rfl #[(.pointer (some ⟨g, 0, none⟩))] w) (T := [.rule .r_term, .rule .r_terms]) (G_sum_1.body HP0.out HG0.out) HNN.out HX1.out)
  clear h1 hr
  go_enter Try.func141, Try.ntmps141
  go_upto_region 1 with (fail)
  rw [HWB.out, HGE.out]
  go_wp2_with (first
   | (go_at_call 55; (with_reducible refine Calls.mono HC1.out ?_); rintro e w1 ⟨rfl, ve1, h2, h3⟩; have HP1 := Lib.hid h2; have HS1 := Lib.hid (HS0.out.trans h3); have HG1 := Lib.hid (mkeep (HT0.out.trans h3) HP0.out HG0.out (by decide) (by decide)); have HT1 := Lib.hid (HT0.out.trans h3); clear bx; have bx := cell_of_row _ _ 0 _ _ _ HG1.out; clear h2 h3))
  go_end0
  exact ⟨rfl, ve1, HP1.out, HS1.out⟩
 | err er jj =>
  have HX1 := Lib.hid h1
  have HC1 := Lib.hid (node_new HP0.out 23 23 rfl (.func (.func 154) #[] #[.pointer (some ⟨g, 0, none⟩)]) 154 (.pointer (some ⟨g, 0, none⟩)) (.inr rfl) (fun w => enters_ Try.func154 (by kernel_rfl) rfl #[(.pointer (some ⟨g, 0, none⟩))] w) (T := [.rule .r_term, .rule .r_terms]) (G_sum_1.body HP0.out HG0.out) HNN.out HX1.out)
  clear h1 hr
  go_enter Try.func141, Try.ntmps141
  go_upto_region 1 with (fail)
  rw [HWB.out, HGE.out]
  go_wp2_with (first
   | (go_at_call 55; (with_reducible refine Calls.mono HC1.out ?_); rintro e w1 ⟨rfl, ve1, h3⟩; have HS1 := Lib.hid (HS0.out.trans h3); clear h3))
  exact ⟨rfl, rfl, ve1, HS1.out⟩
set_option maxRecDepth 100000 in
set_option maxHeartbeats 8000000 in
theorem g_term_1 (l : List Tk) (N : Nat) (G_factor : Good l N 165 [.rule .r_factor]) : GoodC l N 164 [.rule .r_factor, .rule .r_factors] := by
 intro n hn W0 A c w0 p g i d out ve r H hg hr
 show Calls Try.prog 164 _ w0 _
 have HP0 := Lib.hid H
 have HG0 := Lib.hid hg
 have HNN := Lib.hid hn
 have HS0 := Lib.hid (PStep.refl p (.slice none 0 0) ve w0)
 have HT0 := HS0
 have bx := cell_of_row _ _ 0 _ _ _ hg
 have hr0 : srun l n ⟨[.rule .r_factor, .rule .r_factors], i, d, out⟩ = some r := hr
 clear H hg hn
 have h1 := hr0
 cases r with
 | ok i1 d1 out1 =>
  have HX1 := Lib.hid h1
  have HC1 := Lib.hid (row_new HP0.out (.func (.func 165) #[.pointer (some ⟨p, 0, none⟩)] #[]) 165 (.pointer (some ⟨p, 0, none⟩)) (.inl rfl) (fun w => enters_ Try.func165 (by kernel_rfl) rfl #[(.pointer (some ⟨p, 0, none⟩))] w) [⟨#[42]⟩, ⟨#[47]⟩, ⟨#[37]⟩] 3 [.string ⟨#[42]⟩, .string ⟨#[47]⟩, .string ⟨#[37]⟩] rfl rfl (by decide) (by decide) (T := [.rule .r_factor]) (R := .r_factors) (fun cc => row_factors cc) (G_factor.body) HNN.out HX1.out)
  clear h1 hr
  go_enter Try.func164, Try.ntmps164
  go_wp2_with (first
   | (go_at_call 96; (with_reducible refine Calls.mono HC1.out ?_); rintro e w1 ⟨rfl, ve1, h2, h3⟩; have HP1 := Lib.hid h2; have HS1 := Lib.hid (HS0.out.trans h3); have HG1 := Lib.hid (mkeep (HT0.out.trans h3) HP0.out HG0.out (by decide) (by decide)); have HT1 := Lib.hid (HT0.out.trans h3); clear bx; have bx := cell_of_row _ _ 0 _ _ _ HG1.out; clear h2 h3))
  go_end0
  exact ⟨rfl, ve1, HP1.out, HS1.out⟩
 | err er jj =>
  have HX1 := Lib.hid h1
  have HC1 := Lib.hid (row_new HP0.out (.func (.func 165) #[.pointer (some ⟨p, 0, none⟩)] #[]) 165 (.pointer (some ⟨p, 0, none⟩)) (.inl rfl) (fun w => enters_ Try.func165 (by kernel_rfl) rfl #[(.pointer (some ⟨p, 0, none⟩))] w) [⟨#[42]⟩, ⟨#[47]⟩, ⟨#[37]⟩] 3 [.string ⟨#[42]⟩, .string ⟨#[47]⟩, .string ⟨#[37]⟩] rfl rfl (by decide) (by decide) (T := [.rule .r_factor]) (R := .r_factors) (fun cc => row_factors cc) (G_factor.body) HNN.out HX1.out)
  clear h1 hr
  go_enter Try.func164, Try.ntmps164
  go_wp2_with (first
   | (go_at_call 96; (with_reducible refine Calls.mono HC1.out ?_); rintro e w1 ⟨rfl, ve1, h3⟩; have HS1 := Lib.hid (HS0.out.trans h3); clear h3))
  exact ⟨rfl, rfl, ve1, HS1.out⟩
set_option maxRecDepth 100000 in
set_option maxHeartbeats 8000000 in
theorem g_term (l : List Tk) (N : Nat) (G_term_1 : GoodC l N 164 [.rule .r_factor, .rule .r_factors]) : Good l (N + 1) 155 [.rule .r_term] := by
 intro n0 hn W0 A c w p i d out ve r H hr
 show Calls Try.prog 155 _ w _
 obtain ⟨_, n, rfl, h1⟩ := srun_on hr (s' := ⟨[.rule .r_factor, .rule .r_factors] ++ [.fin 24], i, d + 1, out ++ [evOf (1, 24)]⟩) rfl
 have HNN : Hid (n ≤ N) := Lib.hid (by omega)
 clear hn
 obtain ⟨w0, hw0⟩ : ∃ V, w.alloc (.cells #[.pointer (some ⟨p, 0, none⟩)] 83) = V := ⟨_, rfl⟩
 have hb0 : Below w.heap.size w w0 := by rw [← hw0]; exact (Below.refl _ w).alloc (Nat.le_refl _) _
 have hg : w0.heap[w.heap.size]? = some (.cells #[.pointer (some ⟨p, 0, none⟩)] 83 (0, 0)) := by rw [← hw0]; exact World.alloc_heap_new _ _
 have HWB := Lib.hid hw0
 have HP0 := Lib.hid (H.moved hb0)
 have HS0 := Lib.hid (PStep.below hb0 : MStep p ve w ve w0)
 have HT0 := Lib.hid (PStep.refl p (.slice none 0 0) ve w0)
 obtain ⟨g, hge⟩ : ∃ g, w.heap.size = g := ⟨_, rfl⟩
 rw [hge] at hg
 have HGE := Lib.hid hge
 have HG0 := Lib.hid hg
 have bx := cell_of_row _ _ 0 _ _ _ hg
 clear hw0 hb0 hg hge H
 cases r with
 | ok i1 d1 out1 =>
  have HX1 := Lib.hid h1
  have HC1 := Lib.hid (node_new HP0.out 24 24 rfl (.func (.func 164) #[] #[.pointer (some ⟨g, 0, none⟩)]) 164 (.pointer (some ⟨g, 0, none⟩)) (.inr rfl) (fun w => enters_ Try.func164 (by kernel_rfl) rfl #[(.pointer (some ⟨g, 0, none⟩))] w) (T := [.rule .r_factor, .rule .r_factors]) (G_term_1.body HP0.out HG0.out) HNN.out HX1.out)
  clear h1 hr
  go_enter Try.func155, Try.ntmps155
  go_upto_region 1 with (fail)
  rw [HWB.out, HGE.out]
  go_wp2_with (first
   | (go_at_call 55; (with_reducible refine Calls.mono HC1.out ?_); rintro e w1 ⟨rfl, ve1, h2, h3⟩; have HP1 := Lib.hid h2; have HS1 := Lib.hid (HS0.out.trans h3); have HG1 := Lib.hid (mkeep (HT0.out.trans h3) HP0.out HG0.out (by decide) (by decide)); have HT1 := Lib.hid (HT0.out.trans h3); clear bx; have bx := cell_of_row _ _ 0 _ _ _ HG1.out; clear h2 h3))
  go_end0
  exact ⟨rfl, ve1, HP1.out, HS1.out⟩
 | err er jj =>
  have HX1 := Lib.hid h1
  have HC1 := Lib.hid (node_new HP0.out 24 24 rfl (.func (.func 164) #[] #[.pointer (some ⟨g, 0, none⟩)]) 164 (.pointer (some ⟨g, 0, none⟩)) (.inr rfl) (fun w => enters_ Try.func164 (by kernel_rfl) rfl #[(.pointer (some ⟨g, 0, none⟩))] w) (T := [.rule .r_factor, .rule .r_factors]) (G_term_1.body HP0.out HG0.out) HNN.out HX1.out)
  clear h1 hr
  go_enter Try.func155, Try.ntmps155
  go_upto_region 1 with (fail)
  rw [HWB.out, HGE.out]
  go_wp2_with (first
   | (go_at_call 55; (with_reducible refine Calls.mono HC1.out ?_); rintro e w1 ⟨rfl, ve1, h3⟩; have HS1 := Lib.hid (HS0.out.trans h3); clear h3))
  exact ⟨rfl, rfl, ve1, HS1.out⟩
set_option maxRecDepth 100000 in
set_option maxHeartbeats 8000000 in
theorem g_body_1 (l : List Tk) (N : Nat) (G_statement : Good l N 97 [.rule .r_statement]) : GoodC l N 95 [.rule .r_statement, .rule .r_statements] := by
 intro n hn W0 A c w0 p g i d out ve r H hg hr
 show Calls Try.prog 95 _ w0 _
 have HP0 := Lib.hid H
 have HG0 := Lib.hid hg
 have HNN := Lib.hid hn
 have HS0 := Lib.hid (PStep.refl p (.slice none 0 0) ve w0)
 have HT0 := HS0
 have bx := cell_of_row _ _ 0 _ _ _ hg
 have hr0 : srun l n ⟨[.rule .r_statement, .rule .r_statements], i, d, out⟩ = some r := hr
 clear H hg hn
 have h1 := hr0
 cases r with
 | ok i1 d1 out1 =>
  have HX1 := Lib.hid h1
  have HC1 := Lib.hid (row_new HP0.out (.func (.func 97) #[.pointer (some ⟨p, 0, none⟩)] #[]) 97 (.pointer (some ⟨p, 0, none⟩)) (.inl rfl) (fun w => enters_ Try.func97 (by kernel_rfl) rfl #[(.pointer (some ⟨p, 0, none⟩))] w) [⟨#[59]⟩] 1 [.string ⟨#[59]⟩] rfl rfl (by decide) (by decide) (T := [.rule .r_statement]) (R := .r_statements) (fun cc => row_statements cc) (G_statement.body) HNN.out HX1.out)
  clear h1 hr
  go_enter Try.func95, Try.ntmps95
  go_wp2_with (first
   | (go_at_call 96; (with_reducible refine Calls.mono HC1.out ?_); rintro e w1 ⟨rfl, ve1, h2, h3⟩; have HP1 := Lib.hid h2; have HS1 := Lib.hid (HS0.out.trans h3); have HG1 := Lib.hid (mkeep (HT0.out.trans h3) HP0.out HG0.out (by decide) (by decide)); have HT1 := Lib.hid (HT0.out.trans h3); clear bx; have bx := cell_of_row _ _ 0 _ _ _ HG1.out; clear h2 h3))
  go_end0
  exact ⟨rfl, ve1, HP1.out, HS1.out⟩
 | err er jj =>
  have HX1 := Lib.hid h1
  have HC1 := Lib.hid (row_new HP0.out (.func (.func 97) #[.pointer (some ⟨p, 0, none⟩)] #[]) 97 (.pointer (some ⟨p, 0, none⟩)) (.inl rfl) (fun w => enters_ Try.func97 (by kernel_rfl) rfl #[(.pointer (some ⟨p, 0, none⟩))] w) [⟨#[59]⟩] 1 [.string ⟨#[59]⟩] rfl rfl (by decide) (by decide) (T := [.rule .r_statement]) (R := .r_statements) (fun cc => row_statements cc) (G_statement.body) HNN.out HX1.out)
  clear h1 hr
  go_enter Try.func95, Try.ntmps95
  go_wp2_with (first
   | (go_at_call 96; (with_reducible refine Calls.mono HC1.out ?_); rintro e w1 ⟨rfl, ve1, h3⟩; have HS1 := Lib.hid (HS0.out.trans h3); clear h3))
  exact ⟨rfl, rfl, ve1, HS1.out⟩
set_option maxRecDepth 100000 in
set_option maxHeartbeats 8000000 in
theorem g_body (l : List Tk) (N : Nat) (G_body_1 : GoodC l N 95 [.rule .r_statement, .rule .r_statements]) : Good l (N + 1) 75 [.rule .r_body] := by
 intro n0 hn W0 A c w p i d out ve r H hr
 show Calls Try.prog 75 _ w _
 obtain ⟨_, n, rfl, h1⟩ := srun_on hr (s' := ⟨[.rule .r_statement, .rule .r_statements] ++ [.fin 12], i, d + 1, out ++ [evOf (1, 12)]⟩) rfl
 have HNN : Hid (n ≤ N) := Lib.hid (by omega)
 clear hn
 obtain ⟨w0, hw0⟩ : ∃ V, w.alloc (.cells #[.pointer (some ⟨p, 0, none⟩)] 83) = V := ⟨_, rfl⟩
 have hb0 : Below w.heap.size w w0 := by rw [← hw0]; exact (Below.refl _ w).alloc (Nat.le_refl _) _
 have hg : w0.heap[w.heap.size]? = some (.cells #[.pointer (some ⟨p, 0, none⟩)] 83 (0, 0)) := by rw [← hw0]; exact World.alloc_heap_new _ _
 have HWB := Lib.hid hw0
 have HP0 := Lib.hid (H.moved hb0)
 have HS0 := Lib.hid (PStep.below hb0 : MStep p ve w ve w0)
 have HT0 := Lib.hid (PStep.refl p (.slice none 0 0) ve w0)
 obtain ⟨g, hge⟩ : ∃ g, w.heap.size = g := ⟨_, rfl⟩
 rw [hge] at hg
 have HGE := Lib.hid hge
 have HG0 := Lib.hid hg
 have bx := cell_of_row _ _ 0 _ _ _ hg
 clear hw0 hb0 hg hge H
 cases r with
 | ok i1 d1 out1 =>
  have HX1 := Lib.hid h1
  have HC1 := Lib.hid (node_new HP0.out 12 12 rfl (.func (.func 95) #[] #[.pointer (some ⟨g, 0, none⟩)]) 95 (.pointer (some ⟨g, 0, none⟩)) (.inr rfl) (fun w => enters_ Try.func95 (by kernel_rfl) rfl #[(.pointer (some ⟨g, 0, none⟩))] w) (T := [.rule .r_statement, .rule .r_statements]) (G_body_1.body HP0.out HG0.out) HNN.out HX1.out)
  clear h1 hr
  go_enter Try.func75, Try.ntmps75
  go_upto_region 1 with (fail)
  rw [HWB.out, HGE.out]
  go_wp2_with (first
   | (go_at_call 55; (with_reducible refine Calls.mono HC1.out ?_); rintro e w1 ⟨rfl, ve1, h2, h3⟩; have HP1 := Lib.hid h2; have HS1 := Lib.hid (HS0.out.trans h3); have HG1 := Lib.hid (mkeep (HT0.out.trans h3) HP0.out HG0.out (by decide) (by decide)); have HT1 := Lib.hid (HT0.out.trans h3); clear bx; have bx := cell_of_row _ _ 0 _ _ _ HG1.out; clear h2 h3))
  go_end0
  exact ⟨rfl, ve1, HP1.out, HS1.out⟩
 | err er jj =>
  have HX1 := Lib.hid h1
  have HC1 := Lib.hid (node_new HP0.out 12 12 rfl (.func (.func 95) #[] #[.pointer (some ⟨g, 0, none⟩)]) 95 (.pointer (some ⟨g, 0, none⟩)) (.inr rfl) (fun w => enters_ Try.func95 (by kernel_rfl) rfl #[(.pointer (some ⟨g, 0, none⟩))] w) (T := [.rule .r_statement, .rule .r_statements]) (G_body_1.body HP0.out HG0.out) HNN.out HX1.out)
  clear h1 hr
  go_enter Try.func75, Try.ntmps75
  go_upto_region 1 with (fail)
  rw [HWB.out, HGE.out]
  go_wp2_with (first
   | (go_at_call 55; (with_reducible refine Calls.mono HC1.out ?_); rintro e w1 ⟨rfl, ve1, h3⟩; have HS1 := Lib.hid (HS0.out.trans h3); clear h3))
  exact ⟨rfl, rfl, ve1, HS1.out⟩
set_option maxRecDepth 100000 in
set_option maxHeartbeats 8000000 in
theorem g_rel (l : List Tk) (N : Nat) (G_rel_1 : GoodC l N 140 [.rule .r_sum, .rule .r_compared]) : Good l (N + 1) 117 [.rule .r_rel] := by
 intro n0 hn W0 A c w p i d out ve r H hr
 show Calls Try.prog 117 _ w _
 obtain ⟨_, n, rfl, h1⟩ := srun_on hr (s' := ⟨[.rule .r_sum, .rule .r_compared] ++ [.fin 22], i, d + 1, out ++ [evOf (1, 22)]⟩) rfl
 have HNN : Hid (n ≤ N) := Lib.hid (by omega)
 clear hn
 obtain ⟨w0, hw0⟩ : ∃ V, w.alloc (.cells #[.pointer (some ⟨p, 0, none⟩)] 83) = V := ⟨_, rfl⟩
 have hb0 : Below w.heap.size w w0 := by rw [← hw0]; exact (Below.refl _ w).alloc (Nat.le_refl _) _
 have hg : w0.heap[w.heap.size]? = some (.cells #[.pointer (some ⟨p, 0, none⟩)] 83 (0, 0)) := by rw [← hw0]; exact World.alloc_heap_new _ _
 have HWB := Lib.hid hw0
 have HP0 := Lib.hid (H.moved hb0)
 have HS0 := Lib.hid (PStep.below hb0 : MStep p ve w ve w0)
 have HT0 := Lib.hid (PStep.refl p (.slice none 0 0) ve w0)
 obtain ⟨g, hge⟩ : ∃ g, w.heap.size = g := ⟨_, rfl⟩
 rw [hge] at hg
 have HGE := Lib.hid hge
 have HG0 := Lib.hid hg
 have bx := cell_of_row _ _ 0 _ _ _ hg
 clear hw0 hb0 hg hge H
 cases r with
 | ok i1 d1 out1 =>
  have HX1 := Lib.hid h1
  have HC1 := Lib.hid (node_new HP0.out 22 22 rfl (.func (.func 140) #[] #[.pointer (some ⟨g, 0, none⟩)]) 140 (.pointer (some ⟨g, 0, none⟩)) (.inr rfl) (fun w => enters_ Try.func140 (by kernel_rfl) rfl #[(.pointer (some ⟨g, 0, none⟩))] w) (T := [.rule .r_sum, .rule .r_compared]) (G_rel_1.body HP0.out HG0.out) HNN.out HX1.out)
  clear h1 hr
  go_enter Try.func117, Try.ntmps117
  go_upto_region 1 with (fail)
  rw [HWB.out, HGE.out]
  go_wp2_with (first
   | (go_at_call 55; (with_reducible refine Calls.mono HC1.out ?_); rintro e w1 ⟨rfl, ve1, h2, h3⟩; have HP1 := Lib.hid h2; have HS1 := Lib.hid (HS0.out.trans h3); have HG1 := Lib.hid (mkeep (HT0.out.trans h3) HP0.out HG0.out (by decide) (by decide)); have HT1 := Lib.hid (HT0.out.trans h3); clear bx; have bx := cell_of_row _ _ 0 _ _ _ HG1.out; clear h2 h3))
  go_end0
  exact ⟨rfl, ve1, HP1.out, HS1.out⟩
 | err er jj =>
  have HX1 := Lib.hid h1
  have HC1 := Lib.hid (node_new HP0.out 22 22 rfl (.func (.func 140) #[] #[.pointer (some ⟨g, 0, none⟩)]) 140 (.pointer (some ⟨g, 0, none⟩)) (.inr rfl) (fun w => enters_ Try.func140 (by kernel_rfl) rfl #[(.pointer (some ⟨g, 0, none⟩))] w) (T := [.rule .r_sum, .rule .r_compared]) (G_rel_1.body HP0.out HG0.out) HNN.out HX1.out)
  clear h1 hr
  go_enter Try.func117, Try.ntmps117
  go_upto_region 1 with (fail)
  rw [HWB.out, HGE.out]
  go_wp2_with (first
   | (go_at_call 55; (with_reducible refine Calls.mono HC1.out ?_); rintro e w1 ⟨rfl, ve1, h3⟩; have HS1 := Lib.hid (HS0.out.trans h3); clear h3))
  exact ⟨rfl, rfl, ve1, HS1.out⟩
set_option maxRecDepth 100000 in
set_option maxHeartbeats 8000000 in
theorem g_object (l : List Tk) (N : Nat) (G_object_1 : GoodC l N 142 [.word ⟨#[64, 110, 97, 109, 101]⟩, .rule .r_selected]) : Good l (N + 1) 122 [.rule .r_object] := by
 intro n0 hn W0 A c w p i d out ve r H hr
 show Calls Try.prog 122 _ w _
 obtain ⟨_, n, rfl, h1⟩ := srun_on hr (s' := ⟨[.word ⟨#[64, 110, 97, 109, 101]⟩, .rule .r_selected] ++ [.fin 28], i, d + 1, out ++ [evOf (1, 28)]⟩) rfl
 have HNN : Hid (n ≤ N) := Lib.hid (by omega)
 clear hn
 obtain ⟨w0, hw0⟩ : ∃ V, w.alloc (.cells #[.pointer (some ⟨p, 0, none⟩)] 83) = V := ⟨_, rfl⟩
 have hb0 : Below w.heap.size w w0 := by rw [← hw0]; exact (Below.refl _ w).alloc (Nat.le_refl _) _
 have hg : w0.heap[w.heap.size]? = some (.cells #[.pointer (some ⟨p, 0, none⟩)] 83 (0, 0)) := by rw [← hw0]; exact World.alloc_heap_new _ _
 have HWB := Lib.hid hw0
 have HP0 := Lib.hid (H.moved hb0)
 have HS0 := Lib.hid (PStep.below hb0 : MStep p ve w ve w0)
 have HT0 := Lib.hid (PStep.refl p (.slice none 0 0) ve w0)
 obtain ⟨g, hge⟩ : ∃ g, w.heap.size = g := ⟨_, rfl⟩
 rw [hge] at hg
 have HGE := Lib.hid hge
 have HG0 := Lib.hid hg
 have bx := cell_of_row _ _ 0 _ _ _ hg
 clear hw0 hb0 hg hge H
 cases r with
 | ok i1 d1 out1 =>
  have HX1 := Lib.hid h1
  have HC1 := Lib.hid (node_new HP0.out 28 28 rfl (.func (.func 142) #[] #[.pointer (some ⟨g, 0, none⟩)]) 142 (.pointer (some ⟨g, 0, none⟩)) (.inr rfl) (fun w => enters_ Try.func142 (by kernel_rfl) rfl #[(.pointer (some ⟨g, 0, none⟩))] w) (T := [.word ⟨#[64, 110, 97, 109, 101]⟩, .rule .r_selected]) (G_object_1.body HP0.out HG0.out) HNN.out HX1.out)
  clear h1 hr
  go_enter Try.func122, Try.ntmps122
  go_upto_region 1 with (fail)
  rw [HWB.out, HGE.out]
  go_wp2_with (first
   | (go_at_call 55; (with_reducible refine Calls.mono HC1.out ?_); rintro e w1 ⟨rfl, ve1, h2, h3⟩; have HP1 := Lib.hid h2; have HS1 := Lib.hid (HS0.out.trans h3); have HG1 := Lib.hid (mkeep (HT0.out.trans h3) HP0.out HG0.out (by decide) (by decide)); have HT1 := Lib.hid (HT0.out.trans h3); clear bx; have bx := cell_of_row _ _ 0 _ _ _ HG1.out; clear h2 h3))
  go_end0
  exact ⟨rfl, ve1, HP1.out, HS1.out⟩
 | err er jj =>
  have HX1 := Lib.hid h1
  have HC1 := Lib.hid (node_new HP0.out 28 28 rfl (.func (.func 142) #[] #[.pointer (some ⟨g, 0, none⟩)]) 142 (.pointer (some ⟨g, 0, none⟩)) (.inr rfl) (fun w => enters_ Try.func142 (by kernel_rfl) rfl #[(.pointer (some ⟨g, 0, none⟩))] w) (T := [.word ⟨#[64, 110, 97, 109, 101]⟩, .rule .r_selected]) (G_object_1.body HP0.out HG0.out) HNN.out HX1.out)
  clear h1 hr
  go_enter Try.func122, Try.ntmps122
  go_upto_region 1 with (fail)
  rw [HWB.out, HGE.out]
  go_wp2_with (first
   | (go_at_call 55; (with_reducible refine Calls.mono HC1.out ?_); rintro e w1 ⟨rfl, ve1, h3⟩; have HS1 := Lib.hid (HS0.out.trans h3); clear h3))
  exact ⟨rfl, rfl, ve1, HS1.out⟩
set_option maxRecDepth 100000 in
set_option maxHeartbeats 8000000 in
theorem g_block (l : List Tk) (N : Nat) (G_block_1 : GoodC l N 73 [.rule .r_declarations, .word ⟨#[98, 101, 103, 105, 110]⟩, .rule .r_body, .word ⟨#[101, 110, 100]⟩]) : Good l (N + 1) 60 [.rule .r_block] := by
 intro n0 hn W0 A c w p i d out ve r H hr
 show Calls Try.prog 60 _ w _
 obtain ⟨_, n, rfl, h1⟩ := srun_on hr (s' := ⟨[.rule .r_declarations, .word ⟨#[98, 101, 103, 105, 110]⟩, .rule .r_body, .word ⟨#[101, 110, 100]⟩] ++ [.fin 2], i, d + 1, out ++ [evOf (1, 2)]⟩) rfl
 have HNN : Hid (n ≤ N) := Lib.hid (by omega)
 clear hn
 obtain ⟨w0, hw0⟩ : ∃ V, w.alloc (.cells #[.pointer (some ⟨p, 0, none⟩)] 83) = V := ⟨_, rfl⟩
 have hb0 : Below w.heap.size w w0 := by rw [← hw0]; exact (Below.refl _ w).alloc (Nat.le_refl _) _
 have hg : w0.heap[w.heap.size]? = some (.cells #[.pointer (some ⟨p, 0, none⟩)] 83 (0, 0)) := by rw [← hw0]; exact World.alloc_heap_new _ _
 have HWB := Lib.hid hw0
 have HP0 := Lib.hid (H.moved hb0)
 have HS0 := Lib.hid (PStep.below hb0 : MStep p ve w ve w0)
 have HT0 := Lib.hid (PStep.refl p (.slice none 0 0) ve w0)
 obtain ⟨g, hge⟩ : ∃ g, w.heap.size = g := ⟨_, rfl⟩
 rw [hge] at hg
 have HGE := Lib.hid hge
 have HG0 := Lib.hid hg
 have bx := cell_of_row _ _ 0 _ _ _ hg
 clear hw0 hb0 hg hge H
 cases r with
 | ok i1 d1 out1 =>
  have HX1 := Lib.hid h1
  have HC1 := Lib.hid (node_new HP0.out 2 2 rfl (.func (.func 73) #[] #[.pointer (some ⟨g, 0, none⟩)]) 73 (.pointer (some ⟨g, 0, none⟩)) (.inr rfl) (fun w => enters_ Try.func73 (by kernel_rfl) rfl #[(.pointer (some ⟨g, 0, none⟩))] w) (T := [.rule .r_declarations, .word ⟨#[98, 101, 103, 105, 110]⟩, .rule .r_body, .word ⟨#[101, 110, 100]⟩]) (G_block_1.body HP0.out HG0.out) HNN.out HX1.out)
  clear h1 hr
  go_enter Try.func60, Try.ntmps60
  go_upto_region 1 with (fail)
  rw [HWB.out, HGE.out]
  go_wp2_with (first
   | (go_at_call 55; (with_reducible refine Calls.mono HC1.out ?_); rintro e w1 ⟨rfl, ve1, h2, h3⟩; have HP1 := Lib.hid h2; have HS1 := Lib.hid (HS0.out.trans h3); have HG1 := Lib.hid (mkeep (HT0.out.trans h3) HP0.out HG0.out (by decide) (by decide)); have HT1 := Lib.hid (HT0.out.trans h3); clear bx; have bx := cell_of_row _ _ 0 _ _ _ HG1.out; clear h2 h3))
  go_end0
  exact ⟨rfl, ve1, HP1.out, HS1.out⟩
 | err er jj =>
  have HX1 := Lib.hid h1
  have HC1 := Lib.hid (node_new HP0.out 2 2 rfl (.func (.func 73) #[] #[.pointer (some ⟨g, 0, none⟩)]) 73 (.pointer (some ⟨g, 0, none⟩)) (.inr rfl) (fun w => enters_ Try.func73 (by kernel_rfl) rfl #[(.pointer (some ⟨g, 0, none⟩))] w) (T := [.rule .r_declarations, .word ⟨#[98, 101, 103, 105, 110]⟩, .rule .r_body, .word ⟨#[101, 110, 100]⟩]) (G_block_1.body HP0.out HG0.out) HNN.out HX1.out)
  clear h1 hr
  go_enter Try.func60, Try.ntmps60
  go_upto_region 1 with (fail)
  rw [HWB.out, HGE.out]
  go_wp2_with (first
   | (go_at_call 55; (with_reducible refine Calls.mono HC1.out ?_); rintro e w1 ⟨rfl, ve1, h3⟩; have HS1 := Lib.hid (HS0.out.trans h3); clear h3))
  exact ⟨rfl, rfl, ve1, HS1.out⟩
end Go.Proofs.Ytmjbpgnjgblnmaa
namespace Go.Proofs.Ytmjbpgnjgblnmaa
open Go.RowKit Go.Proofs.YtmjbpgnjgblnmaaW.PrintWords Go.Proofs.YtmjbpgnjgblnmaaW.PrintLast Go.Proofs.YtmjbpgnjgblnmaaW.PrintMore
set_option maxRecDepth 100000 in
set_option maxHeartbeats 8000000 in
theorem g_declaration_1 (l : List Tk) (N : Nat) (G_typed : Good l N 91 [.word ⟨#[64, 110, 97, 109, 101]⟩, .rule .r_names, .word ⟨#[58]⟩, .rule .r_kind]) : GoodC l N 90 [.word ⟨#[118, 97, 114]⟩, .word ⟨#[64, 110, 97, 109, 101]⟩, .rule .r_names, .word ⟨#[58]⟩, .rule .r_kind, .word ⟨#[59]⟩] := by
 intro n hn W0 A c w0 p g i d out ve r H hg hr
 show Calls Try.prog 90 _ w0 _
 have HP0 := Lib.hid H
 have HG0 := Lib.hid hg
 have HNN := Lib.hid hn
 have HS0 := Lib.hid (PStep.refl p (.slice none 0 0) ve w0)
 have HT0 := HS0
 have bx := cell_of_row _ _ 0 _ _ _ hg
 have hr0 : srun l n ⟨([.word ⟨#[118, 97, 114]⟩] ++ ([.word ⟨#[64, 110, 97, 109, 101]⟩, .rule .r_names, .word ⟨#[58]⟩, .rule .r_kind] ++ [.word ⟨#[59]⟩])), i, d, out⟩ = some r := hr
 clear H hg hn
 rcases srun_app l n [.word ⟨#[118, 97, 114]⟩] ([.word ⟨#[64, 110, 97, 109, 101]⟩, .rule .r_names, .word ⟨#[58]⟩, .rule .r_kind] ++ [.word ⟨#[59]⟩]) i d out r hr0 with ⟨er, jj, rfl, h1⟩ | ⟨i1, d1, out1, h1, hr1⟩
 ·skip
  have HX1 := Lib.hid h1
  have HC1 := Lib.hid (words_new HP0.out [⟨#[118, 97, 114]⟩] 1 [.string ⟨#[118, 97, 114]⟩] rfl rfl (by decide) (by decide) HX1.out)
  clear h1 hr
  go_enter Try.func90, Try.ntmps90
  go_wp2_with (first
   | (go_at_call 58; (with_reducible refine Calls.mono HC1.out ?_); rintro e w1 ⟨rfl, ve1, h3⟩; have HS1 := Lib.hid (HS0.out.trans h3); clear h3))
  exact ⟨rfl, rfl, ve1, HS1.out⟩
 ·skip
  rcases srun_app l n [.word ⟨#[64, 110, 97, 109, 101]⟩, .rule .r_names, .word ⟨#[58]⟩, .rule .r_kind] [.word ⟨#[59]⟩] i1 d1 out1 r hr1 with ⟨er, jj, rfl, h2⟩ | ⟨i2, d2, out2, h2, hr2⟩
  ·skip
   have HX1 := Lib.hid h1; have HX2 := Lib.hid h2
   have HC1 := Lib.hid (words_new HP0.out [⟨#[118, 97, 114]⟩] 1 [.string ⟨#[118, 97, 114]⟩] rfl rfl (by decide) (by decide) HX1.out)
   clear h1 h2 hr
   go_enter Try.func90, Try.ntmps90
   go_wp2_with (first
    | (go_at_call 58; (with_reducible refine Calls.mono HC1.out ?_); rintro e w1 ⟨rfl, ve1, h2, h3⟩; have HP1 := Lib.hid h2; have HS1 := Lib.hid (HS0.out.trans h3); have HG1 := Lib.hid (mkeep (HT0.out.trans h3) HP0.out HG0.out (by decide) (by decide)); have HT1 := Lib.hid (HT0.out.trans h3); clear bx; have bx := cell_of_row _ _ 0 _ _ _ HG1.out; have HC2 := Lib.hid (G_typed n HNN.out W0 A c w1 p i1 d1 out1 ve1 _ HP1.out HX2.out); clear h2 h3)
    | (go_at_call 91; (with_reducible refine Calls.mono HC2.out ?_); rintro e w2 ⟨rfl, ve2, h3⟩; have HS2 := Lib.hid (HS1.out.trans h3); clear h3))
   exact ⟨rfl, rfl, ve2, HS2.out⟩
  ·skip
   have h3 := hr2
   cases r with
   | ok i3 d3 out3 =>
    have HX1 := Lib.hid h1; have HX2 := Lib.hid h2; have HX3 := Lib.hid h3
    have HC1 := Lib.hid (words_new HP0.out [⟨#[118, 97, 114]⟩] 1 [.string ⟨#[118, 97, 114]⟩] rfl rfl (by decide) (by decide) HX1.out)
    clear h1 h2 h3 hr
    go_enter Try.func90, Try.ntmps90
    go_wp2_with (first
     | (go_at_call 58; (with_reducible refine Calls.mono HC1.out ?_); rintro e w1 ⟨rfl, ve1, h2, h3⟩; have HP1 := Lib.hid h2; have HS1 := Lib.hid (HS0.out.trans h3); have HG1 := Lib.hid (mkeep (HT0.out.trans h3) HP0.out HG0.out (by decide) (by decide)); have HT1 := Lib.hid (HT0.out.trans h3); clear bx; have bx := cell_of_row _ _ 0 _ _ _ HG1.out; have HC2 := Lib.hid (G_typed n HNN.out W0 A c w1 p i1 d1 out1 ve1 _ HP1.out HX2.out); clear h2 h3)
     | (go_at_call 91; (with_reducible refine Calls.mono HC2.out ?_); rintro e w2 ⟨rfl, ve2, h2, h3⟩; have HP2 := Lib.hid h2; have HS2 := Lib.hid (HS1.out.trans h3); have HG2 := Lib.hid (mkeep (HT1.out.trans h3) HP0.out HG0.out (by decide) (by decide)); have HT2 := Lib.hid (HT1.out.trans h3); clear bx; have bx := cell_of_row _ _ 0 _ _ _ HG2.out; have HC3 := Lib.hid (words_new HP2.out [⟨#[59]⟩] 1 [.string ⟨#[59]⟩] rfl rfl (by decide) (by decide) HX3.out); clear h2 h3)
     | (go_at_call 58; (with_reducible refine Calls.mono HC3.out ?_); rintro e w3 ⟨rfl, ve3, h2, h3⟩; have HP3 := Lib.hid h2; have HS3 := Lib.hid (HS2.out.trans h3); have HG3 := Lib.hid (mkeep (HT2.out.trans h3) HP0.out HG0.out (by decide) (by decide)); have HT3 := Lib.hid (HT2.out.trans h3); clear bx; have bx := cell_of_row _ _ 0 _ _ _ HG3.out; clear h2 h3))
    go_end0
    exact ⟨rfl, ve3, HP3.out, HS3.out⟩
   | err er jj =>
    have HX1 := Lib.hid h1; have HX2 := Lib.hid h2; have HX3 := Lib.hid h3
    have HC1 := Lib.hid (words_new HP0.out [⟨#[118, 97, 114]⟩] 1 [.string ⟨#[118, 97, 114]⟩] rfl rfl (by decide) (by decide) HX1.out)
    clear h1 h2 h3 hr
    go_enter Try.func90, Try.ntmps90
    go_wp2_with (first
     | (go_at_call 58; (with_reducible refine Calls.mono HC1.out ?_); rintro e w1 ⟨rfl, ve1, h2, h3⟩; have HP1 := Lib.hid h2; have HS1 := Lib.hid (HS0.out.trans h3); have HG1 := Lib.hid (mkeep (HT0.out.trans h3) HP0.out HG0.out (by decide) (by decide)); have HT1 := Lib.hid (HT0.out.trans h3); clear bx; have bx := cell_of_row _ _ 0 _ _ _ HG1.out; have HC2 := Lib.hid (G_typed n HNN.out W0 A c w1 p i1 d1 out1 ve1 _ HP1.out HX2.out); clear h2 h3)
     | (go_at_call 91; (with_reducible refine Calls.mono HC2.out ?_); rintro e w2 ⟨rfl, ve2, h2, h3⟩; have HP2 := Lib.hid h2; have HS2 := Lib.hid (HS1.out.trans h3); have HG2 := Lib.hid (mkeep (HT1.out.trans h3) HP0.out HG0.out (by decide) (by decide)); have HT2 := Lib.hid (HT1.out.trans h3); clear bx; have bx := cell_of_row _ _ 0 _ _ _ HG2.out; have HC3 := Lib.hid (words_new HP2.out [⟨#[59]⟩] 1 [.string ⟨#[59]⟩] rfl rfl (by decide) (by decide) HX3.out); clear h2 h3)
     | (go_at_call 58; (with_reducible refine Calls.mono HC3.out ?_); rintro e w3 ⟨rfl, ve3, h3⟩; have HS3 := Lib.hid (HS2.out.trans h3); clear h3))
    exact ⟨rfl, rfl, ve3, HS3.out⟩
set_option maxRecDepth 100000 in
set_option maxHeartbeats 8000000 in
theorem g_declaration_2 (l : List Tk) (N : Nat) (G_expr : Good l N 93 [.rule .r_expr]) : GoodC l N 92 [.word ⟨#[99, 111, 110, 115, 116]⟩, .word ⟨#[64, 110, 97, 109, 101]⟩, .word ⟨#[61]⟩, .rule .r_expr, .word ⟨#[59]⟩] := by
 intro n hn W0 A c w0 p g i d out ve r H hg hr
 show Calls Try.prog 92 _ w0 _
 have HP0 := Lib.hid H
 have HG0 := Lib.hid hg
 have HNN := Lib.hid hn
 have HS0 := Lib.hid (PStep.refl p (.slice none 0 0) ve w0)
 have HT0 := HS0
 have bx := cell_of_row _ _ 0 _ _ _ hg
 have hr0 : srun l n ⟨([.word ⟨#[99, 111, 110, 115, 116]⟩] ++ ([.word ⟨#[64, 110, 97, 109, 101]⟩] ++ ([.word ⟨#[61]⟩] ++ ([.rule .r_expr] ++ [.word ⟨#[59]⟩])))), i, d, out⟩ = some r := hr
 clear H hg hn
 rcases srun_app l n [.word ⟨#[99, 111, 110, 115, 116]⟩] ([.word ⟨#[64, 110, 97, 109, 101]⟩] ++ ([.word ⟨#[61]⟩] ++ ([.rule .r_expr] ++ [.word ⟨#[59]⟩]))) i d out r hr0 with ⟨er, jj, rfl, h1⟩ | ⟨i1, d1, out1, h1, hr1⟩
 ·skip
  have HX1 := Lib.hid h1
  have HC1 := Lib.hid (words_new HP0.out [⟨#[99, 111, 110, 115, 116]⟩] 1 [.string ⟨#[99, 111, 110, 115, 116]⟩] rfl rfl (by decide) (by decide) HX1.out)
  clear h1 hr
  go_enter Try.func92, Try.ntmps92
  go_wp2_with (first
   | (go_at_call 58; (with_reducible refine Calls.mono HC1.out ?_); rintro e w1 ⟨rfl, ve1, h3⟩; have HS1 := Lib.hid (HS0.out.trans h3); clear h3))
  exact ⟨rfl, rfl, ve1, HS1.out⟩
 ·skip
  rcases srun_app l n [.word ⟨#[64, 110, 97, 109, 101]⟩] ([.word ⟨#[61]⟩] ++ ([.rule .r_expr] ++ [.word ⟨#[59]⟩])) i1 d1 out1 r hr1 with ⟨er, jj, rfl, h2⟩ | ⟨i2, d2, out2, h2, hr2⟩
  ·skip
   have HX1 := Lib.hid h1; have HX2 := Lib.hid h2
   have HC1 := Lib.hid (words_new HP0.out [⟨#[99, 111, 110, 115, 116]⟩] 1 [.string ⟨#[99, 111, 110, 115, 116]⟩] rfl rfl (by decide) (by decide) HX1.out)
   clear h1 h2 hr
   go_enter Try.func92, Try.ntmps92
   go_wp2_with (first
    | (go_at_call 58; (with_reducible refine Calls.mono HC1.out ?_); rintro e w1 ⟨rfl, ve1, h2, h3⟩; have HP1 := Lib.hid h2; have HS1 := Lib.hid (HS0.out.trans h3); have HG1 := Lib.hid (mkeep (HT0.out.trans h3) HP0.out HG0.out (by decide) (by decide)); have HT1 := Lib.hid (HT0.out.trans h3); clear bx; have bx := cell_of_row _ _ 0 _ _ _ HG1.out; have HC2 := Lib.hid (name_any l N n HNN.out W0 A c w1 p i1 d1 out1 ve1 _ HP1.out HX2.out); clear h2 h3)
    | (go_at_call 59; (with_reducible refine Calls.mono HC2.out ?_); rintro e w2 ⟨rfl, ve2, h3⟩; have HS2 := Lib.hid (HS1.out.trans h3); clear h3))
   exact ⟨rfl, rfl, ve2, HS2.out⟩
  ·skip
   rcases srun_app l n [.word ⟨#[61]⟩] ([.rule .r_expr] ++ [.word ⟨#[59]⟩]) i2 d2 out2 r hr2 with ⟨er, jj, rfl, h3⟩ | ⟨i3, d3, out3, h3, hr3⟩
   ·skip
    have HX1 := Lib.hid h1; have HX2 := Lib.hid h2; have HX3 := Lib.hid h3
    have HC1 := Lib.hid (words_new HP0.out [⟨#[99, 111, 110, 115, 116]⟩] 1 [.string ⟨#[99, 111, 110, 115, 116]⟩] rfl rfl (by decide) (by decide) HX1.out)
    clear h1 h2 h3 hr
    go_enter Try.func92, Try.ntmps92
    go_wp2_with (first
     | (go_at_call 58; (with_reducible refine Calls.mono HC1.out ?_); rintro e w1 ⟨rfl, ve1, h2, h3⟩; have HP1 := Lib.hid h2; have HS1 := Lib.hid (HS0.out.trans h3); have HG1 := Lib.hid (mkeep (HT0.out.trans h3) HP0.out HG0.out (by decide) (by decide)); have HT1 := Lib.hid (HT0.out.trans h3); clear bx; have bx := cell_of_row _ _ 0 _ _ _ HG1.out; have HC2 := Lib.hid (name_any l N n HNN.out W0 A c w1 p i1 d1 out1 ve1 _ HP1.out HX2.out); clear h2 h3)
     | (go_at_call 59; (with_reducible refine Calls.mono HC2.out ?_); rintro e w2 ⟨rfl, ve2, h2, h3⟩; have HP2 := Lib.hid h2; have HS2 := Lib.hid (HS1.out.trans h3); have HG2 := Lib.hid (mkeep (HT1.out.trans h3) HP0.out HG0.out (by decide) (by decide)); have HT2 := Lib.hid (HT1.out.trans h3); clear bx; have bx := cell_of_row _ _ 0 _ _ _ HG2.out; have HC3 := Lib.hid (words_new HP2.out [⟨#[61]⟩] 1 [.string ⟨#[61]⟩] rfl rfl (by decide) (by decide) HX3.out); clear h2 h3)
     | (go_at_call 58; (with_reducible refine Calls.mono HC3.out ?_); rintro e w3 ⟨rfl, ve3, h3⟩; have HS3 := Lib.hid (HS2.out.trans h3); clear h3))
    exact ⟨rfl, rfl, ve3, HS3.out⟩
   ·skip
    rcases srun_app l n [.rule .r_expr] [.word ⟨#[59]⟩] i3 d3 out3 r hr3 with ⟨er, jj, rfl, h4⟩ | ⟨i4, d4, out4, h4, hr4⟩
    ·skip
     have HX1 := Lib.hid h1; have HX2 := Lib.hid h2; have HX3 := Lib.hid h3; have HX4 := Lib.hid h4
     have HC1 := Lib.hid (words_new HP0.out [⟨#[99, 111, 110, 115, 116]⟩] 1 [.string ⟨#[99, 111, 110, 115, 116]⟩] rfl rfl (by decide) (by decide) HX1.out)
     clear h1 h2 h3 h4 hr
     go_enter Try.func92, Try.ntmps92
     go_wp2_with (first
      | (go_at_call 58; (with_reducible refine Calls.mono HC1.out ?_); rintro e w1 ⟨rfl, ve1, h2, h3⟩; have HP1 := Lib.hid h2; have HS1 := Lib.hid (HS0.out.trans h3); have HG1 := Lib.hid (mkeep (HT0.out.trans h3) HP0.out HG0.out (by decide) (by decide)); have HT1 := Lib.hid (HT0.out.trans h3); clear bx; have bx := cell_of_row _ _ 0 _ _ _ HG1.out; have HC2 := Lib.hid (name_any l N n HNN.out W0 A c w1 p i1 d1 out1 ve1 _ HP1.out HX2.out); clear h2 h3)
      | (go_at_call 59; (with_reducible refine Calls.mono HC2.out ?_); rintro e w2 ⟨rfl, ve2, h2, h3⟩; have HP2 := Lib.hid h2; have HS2 := Lib.hid (HS1.out.trans h3); have HG2 := Lib.hid (mkeep (HT1.out.trans h3) HP0.out HG0.out (by decide) (by decide)); have HT2 := Lib.hid (HT1.out.trans h3); clear bx; have bx := cell_of_row _ _ 0 _ _ _ HG2.out; have HC3 := Lib.hid (words_new HP2.out [⟨#[61]⟩] 1 [.string ⟨#[61]⟩] rfl rfl (by decide) (by decide) HX3.out); clear h2 h3)
      | (go_at_call 58; (with_reducible refine Calls.mono HC3.out ?_); rintro e w3 ⟨rfl, ve3, h2, h3⟩; have HP3 := Lib.hid h2; have HS3 := Lib.hid (HS2.out.trans h3); have HG3 := Lib.hid (mkeep (HT2.out.trans h3) HP0.out HG0.out (by decide) (by decide)); have HT3 := Lib.hid (HT2.out.trans h3); clear bx; have bx := cell_of_row _ _ 0 _ _ _ HG3.out; have HC4 := Lib.hid (G_expr n HNN.out W0 A c w3 p i3 d3 out3 ve3 _ HP3.out HX4.out); clear h2 h3)
      | (go_at_call 93; (with_reducible refine Calls.mono HC4.out ?_); rintro e w4 ⟨rfl, ve4, h3⟩; have HS4 := Lib.hid (HS3.out.trans h3); clear h3))
     exact ⟨rfl, rfl, ve4, HS4.out⟩
    ·skip
     have h5 := hr4
     cases r with
     | ok i5 d5 out5 =>
      have HX1 := Lib.hid h1; have HX2 := Lib.hid h2; have HX3 := Lib.hid h3; have HX4 := Lib.hid h4; have HX5 := Lib.hid h5
      have HC1 := Lib.hid (words_new HP0.out [⟨#[99, 111, 110, 115, 116]⟩] 1 [.string ⟨#[99, 111, 110, 115, 116]⟩] rfl rfl (by decide) (by decide) HX1.out)
      clear h1 h2 h3 h4 h5 hr
      go_enter Try.func92, Try.ntmps92
      go_wp2_with (first
       | (go_at_call 58; (with_reducible refine Calls.mono HC1.out ?_); rintro e w1 ⟨rfl, ve1, h2, h3⟩; have HP1 := Lib.hid h2; have HS1 := Lib.hid (HS0.out.trans h3); have HG1 := Lib.hid (mkeep (HT0.out.trans h3) HP0.out HG0.out (by decide) (by decide)); have HT1 := Lib.hid (HT0.out.trans h3); clear bx; have bx := cell_of_row _ _ 0 _ _ _ HG1.out; have HC2 := Lib.hid (name_any l N n HNN.out W0 A c w1 p i1 d1 out1 ve1 _ HP1.out HX2.out); clear h2 h3)
       | (go_at_call 59; (with_reducible refine Calls.mono HC2.out ?_); rintro e w2 ⟨rfl, ve2, h2, h3⟩; have HP2 := Lib.hid h2; have HS2 := Lib.hid (HS1.out.trans h3); have HG2 := Lib.hid (mkeep (HT1.out.trans h3) HP0.out HG0.out (by decide) (by decide)); have HT2 := Lib.hid (HT1.out.trans h3); clear bx; have bx := cell_of_row _ _ 0 _ _ _ HG2.out; have HC3 := Lib.hid (words_new HP2.out [⟨#[61]⟩] 1 [.string ⟨#[61]⟩] rfl rfl (by decide) (by decide) HX3.out); clear h2 h3)
       | (go_at_call 58; (with_reducible refine Calls.mono HC3.out ?_); rintro e w3 ⟨rfl, ve3, h2, h3⟩; have HP3 := Lib.hid h2; have HS3 := Lib.hid (HS2.out.trans h3); have HG3 := Lib.hid (mkeep (HT2.out.trans h3) HP0.out HG0.out (by decide) (by decide)); have HT3 := Lib.hid (HT2.out.trans h3); clear bx; have bx := cell_of_row _ _ 0 _ _ _ HG3.out; have HC4 := Lib.hid (G_expr n HNN.out W0 A c w3 p i3 d3 out3 ve3 _ HP3.out HX4.out); clear h2 h3)
       | (go_at_call 93; (with_reducible refine Calls.mono HC4.out ?_); rintro e w4 ⟨rfl, ve4, h2, h3⟩; have HP4 := Lib.hid h2; have HS4 := Lib.hid (HS3.out.trans h3); have HG4 := Lib.hid (mkeep (HT3.out.trans h3) HP0.out HG0.out (by decide) (by decide)); have HT4 := Lib.hid (HT3.out.trans h3); clear bx; have bx := cell_of_row _ _ 0 _ _ _ HG4.out; have HC5 := Lib.hid (words_new HP4.out [⟨#[59]⟩] 1 [.string ⟨#[59]⟩] rfl rfl (by decide) (by decide) HX5.out); clear h2 h3)
       | (go_at_call 58; (with_reducible refine Calls.mono HC5.out ?_); rintro e w5 ⟨rfl, ve5, h2, h3⟩; have HP5 := Lib.hid h2; have HS5 := Lib.hid (HS4.out.trans h3); have HG5 := Lib.hid (mkeep (HT4.out.trans h3) HP0.out HG0.out (by decide) (by decide)); have HT5 := Lib.hid (HT4.out.trans h3); clear bx; have bx := cell_of_row _ _ 0 _ _ _ HG5.out; clear h2 h3))
      go_end0
      exact ⟨rfl, ve5, HP5.out, HS5.out⟩
     | err er jj =>
      have HX1 := Lib.hid h1; have HX2 := Lib.hid h2; have HX3 := Lib.hid h3; have HX4 := Lib.hid h4; have HX5 := Lib.hid h5
      have HC1 := Lib.hid (words_new HP0.out [⟨#[99, 111, 110, 115, 116]⟩] 1 [.string ⟨#[99, 111, 110, 115, 116]⟩] rfl rfl (by decide) (by decide) HX1.out)
      clear h1 h2 h3 h4 h5 hr
      go_enter Try.func92, Try.ntmps92
      go_wp2_with (first
       | (go_at_call 58; (with_reducible refine Calls.mono HC1.out ?_); rintro e w1 ⟨rfl, ve1, h2, h3⟩; have HP1 := Lib.hid h2; have HS1 := Lib.hid (HS0.out.trans h3); have HG1 := Lib.hid (mkeep (HT0.out.trans h3) HP0.out HG0.out (by decide) (by decide)); have HT1 := Lib.hid (HT0.out.trans h3); clear bx; have bx := cell_of_row _ _ 0 _ _ _ HG1.out; have HC2 := Lib.hid (name_any l N n HNN.out W0 A c w1 p i1 d1 out1 ve1 _ HP1.out HX2.out); clear h2 h3)
       | (go_at_call 59; (with_reducible refine Calls.mono HC2.out ?_); rintro e w2 ⟨rfl, ve2, h2, h3⟩; have HP2 := Lib.hid h2; have HS2 := Lib.hid (HS1.out.trans h3); have HG2 := Lib.hid (mkeep (HT1.out.trans h3) HP0.out HG0.out (by decide) (by decide)); have HT2 := Lib.hid (HT1.out.trans h3); clear bx; have bx := cell_of_row _ _ 0 _ _ _ HG2.out; have HC3 := Lib.hid (words_new HP2.out [⟨#[61]⟩] 1 [.string ⟨#[61]⟩] rfl rfl (by decide) (by decide) HX3.out); clear h2 h3)
       | (go_at_call 58; (with_reducible refine Calls.mono HC3.out ?_); rintro e w3 ⟨rfl, ve3, h2, h3⟩; have HP3 := Lib.hid h2; have HS3 := Lib.hid (HS2.out.trans h3); have HG3 := Lib.hid (mkeep (HT2.out.trans h3) HP0.out HG0.out (by decide) (by decide)); have HT3 := Lib.hid (HT2.out.trans h3); clear bx; have bx := cell_of_row _ _ 0 _ _ _ HG3.out; have HC4 := Lib.hid (G_expr n HNN.out W0 A c w3 p i3 d3 out3 ve3 _ HP3.out HX4.out); clear h2 h3)
       | (go_at_call 93; (with_reducible refine Calls.mono HC4.out ?_); rintro e w4 ⟨rfl, ve4, h2, h3⟩; have HP4 := Lib.hid h2; have HS4 := Lib.hid (HS3.out.trans h3); have HG4 := Lib.hid (mkeep (HT3.out.trans h3) HP0.out HG0.out (by decide) (by decide)); have HT4 := Lib.hid (HT3.out.trans h3); clear bx; have bx := cell_of_row _ _ 0 _ _ _ HG4.out; have HC5 := Lib.hid (words_new HP4.out [⟨#[59]⟩] 1 [.string ⟨#[59]⟩] rfl rfl (by decide) (by decide) HX5.out); clear h2 h3)
       | (go_at_call 58; (with_reducible refine Calls.mono HC5.out ?_); rintro e w5 ⟨rfl, ve5, h3⟩; have HS5 := Lib.hid (HS4.out.trans h3); clear h3))
      exact ⟨rfl, rfl, ve5, HS5.out⟩
set_option maxRecDepth 100000 in
set_option maxHeartbeats 8000000 in
theorem g_proc_1 (l : List Tk) (N : Nat) (G_proc_1_1 : GoodC l N 119 [.rule .r_param]) : GoodC l N 118 [.word ⟨#[40]⟩, .rule .r_param, .rule .r_moreParams, .word ⟨#[41]⟩] := by
 intro n hn W0 A c w0 p g i d out ve r H hg hr
 show Calls Try.prog 118 _ w0 _
 have HP0 := Lib.hid H
 have HG0 := Lib.hid hg
 have HNN := Lib.hid hn
 have HS0 := Lib.hid (PStep.refl p (.slice none 0 0) ve w0)
 have HT0 := HS0
 have bx := cell_of_row _ _ 0 _ _ _ hg
 have hr0 : srun l n ⟨([.word ⟨#[40]⟩] ++ ([.rule .r_param, .rule .r_moreParams] ++ [.word ⟨#[41]⟩])), i, d, out⟩ = some r := hr
 clear H hg hn
 rcases srun_app l n [.word ⟨#[40]⟩] ([.rule .r_param, .rule .r_moreParams] ++ [.word ⟨#[41]⟩]) i d out r hr0 with ⟨er, jj, rfl, h1⟩ | ⟨i1, d1, out1, h1, hr1⟩
 ·skip
  have HX1 := Lib.hid h1
  have HC1 := Lib.hid (words_new HP0.out [⟨#[40]⟩] 1 [.string ⟨#[40]⟩] rfl rfl (by decide) (by decide) HX1.out)
  clear h1 hr
  go_enter Try.func118, Try.ntmps118
  go_wp2_with (first
   | (go_at_call 58; (with_reducible refine Calls.mono HC1.out ?_); rintro e w1 ⟨rfl, ve1, h3⟩; have HS1 := Lib.hid (HS0.out.trans h3); clear h3))
  exact ⟨rfl, rfl, ve1, HS1.out⟩
 ·skip
  rcases srun_app l n [.rule .r_param, .rule .r_moreParams] [.word ⟨#[41]⟩] i1 d1 out1 r hr1 with ⟨er, jj, rfl, h2⟩ | ⟨i2, d2, out2, h2, hr2⟩
  ·skip
   have HX1 := Lib.hid h1; have HX2 := Lib.hid h2
   have HC1 := Lib.hid (words_new HP0.out [⟨#[40]⟩] 1 [.string ⟨#[40]⟩] rfl rfl (by decide) (by decide) HX1.out)
   clear h1 h2 hr
   go_enter Try.func118, Try.ntmps118
   go_wp2_with (first
    | (go_at_call 58; (with_reducible refine Calls.mono HC1.out ?_); rintro e w1 ⟨rfl, ve1, h2, h3⟩; have HP1 := Lib.hid h2; have HS1 := Lib.hid (HS0.out.trans h3); have HG1 := Lib.hid (mkeep (HT0.out.trans h3) HP0.out HG0.out (by decide) (by decide)); have HT1 := Lib.hid (HT0.out.trans h3); clear bx; have bx := cell_of_row _ _ 0 _ _ _ HG1.out; have HC2 := Lib.hid (row_new HP1.out (.func (.func 119) #[] #[.pointer (some ⟨g, 0, none⟩)]) 119 (.pointer (some ⟨g, 0, none⟩)) (.inr rfl) (fun w => enters_ Try.func119 (by kernel_rfl) rfl #[(.pointer (some ⟨g, 0, none⟩))] w) [⟨#[59]⟩] 1 [.string ⟨#[59]⟩] rfl rfl (by decide) (by decide) (T := [.rule .r_param]) (R := .r_moreParams) (fun cc => row_moreParams cc) (G_proc_1_1.body HP1.out HG1.out) HNN.out HX2.out); clear h2 h3)
    | (go_at_call 96; (with_reducible refine Calls.mono HC2.out ?_); rintro e w2 ⟨rfl, ve2, h3⟩; have HS2 := Lib.hid (HS1.out.trans h3); clear h3))
   exact ⟨rfl, rfl, ve2, HS2.out⟩
  ·skip
   have h3 := hr2
   cases r with
   | ok i3 d3 out3 =>
    have HX1 := Lib.hid h1; have HX2 := Lib.hid h2; have HX3 := Lib.hid h3
    have HC1 := Lib.hid (words_new HP0.out [⟨#[40]⟩] 1 [.string ⟨#[40]⟩] rfl rfl (by decide) (by decide) HX1.out)
    clear h1 h2 h3 hr
    go_enter Try.func118, Try.ntmps118
    go_wp2_with (first
     | (go_at_call 58; (with_reducible refine Calls.mono HC1.out ?_); rintro e w1 ⟨rfl, ve1, h2, h3⟩; have HP1 := Lib.hid h2; have HS1 := Lib.hid (HS0.out.trans h3); have HG1 := Lib.hid (mkeep (HT0.out.trans h3) HP0.out HG0.out (by decide) (by decide)); have HT1 := Lib.hid (HT0.out.trans h3); clear bx; have bx := cell_of_row _ _ 0 _ _ _ HG1.out; have HC2 := Lib.hid (row_new HP1.out (.func (.func 119) #[] #[.pointer (some ⟨g, 0, none⟩)]) 119 (.pointer (some ⟨g, 0, none⟩)) (.inr rfl) (fun w => enters_ Try.func119 (by kernel_rfl) rfl #[(.pointer (some ⟨g, 0, none⟩))] w) [⟨#[59]⟩] 1 [.string ⟨#[59]⟩] rfl rfl (by decide) (by decide) (T := [.rule .r_param]) (R := .r_moreParams) (fun cc => row_moreParams cc) (G_proc_1_1.body HP1.out HG1.out) HNN.out HX2.out); clear h2 h3)
     | (go_at_call 96; (with_reducible refine Calls.mono HC2.out ?_); rintro e w2 ⟨rfl, ve2, h2, h3⟩; have HP2 := Lib.hid h2; have HS2 := Lib.hid (HS1.out.trans h3); have HG2 := Lib.hid (mkeep (HT1.out.trans h3) HP0.out HG0.out (by decide) (by decide)); have HT2 := Lib.hid (HT1.out.trans h3); clear bx; have bx := cell_of_row _ _ 0 _ _ _ HG2.out; have HC3 := Lib.hid (words_new HP2.out [⟨#[41]⟩] 1 [.string ⟨#[41]⟩] rfl rfl (by decide) (by decide) HX3.out); clear h2 h3)
     | (go_at_call 58; (with_reducible refine Calls.mono HC3.out ?_); rintro e w3 ⟨rfl, ve3, h2, h3⟩; have HP3 := Lib.hid h2; have HS3 := Lib.hid (HS2.out.trans h3); have HG3 := Lib.hid (mkeep (HT2.out.trans h3) HP0.out HG0.out (by decide) (by decide)); have HT3 := Lib.hid (HT2.out.trans h3); clear bx; have bx := cell_of_row _ _ 0 _ _ _ HG3.out; clear h2 h3))
    go_end0
    exact ⟨rfl, ve3, HP3.out, HS3.out⟩
   | err er jj =>
    have HX1 := Lib.hid h1; have HX2 := Lib.hid h2; have HX3 := Lib.hid h3
    have HC1 := Lib.hid (words_new HP0.out [⟨#[40]⟩] 1 [.string ⟨#[40]⟩] rfl rfl (by decide) (by decide) HX1.out)
    clear h1 h2 h3 hr
    go_enter Try.func118, Try.ntmps118
    go_wp2_with (first
     | (go_at_call 58; (with_reducible refine Calls.mono HC1.out ?_); rintro e w1 ⟨rfl, ve1, h2, h3⟩; have HP1 := Lib.hid h2; have HS1 := Lib.hid (HS0.out.trans h3); have HG1 := Lib.hid (mkeep (HT0.out.trans h3) HP0.out HG0.out (by decide) (by decide)); have HT1 := Lib.hid (HT0.out.trans h3); clear bx; have bx := cell_of_row _ _ 0 _ _ _ HG1.out; have HC2 := Lib.hid (row_new HP1.out (.func (.func 119) #[] #[.pointer (some ⟨g, 0, none⟩)]) 119 (.pointer (some ⟨g, 0, none⟩)) (.inr rfl) (fun w => enters_ Try.func119 (by kernel_rfl) rfl #[(.pointer (some ⟨g, 0, none⟩))] w) [⟨#[59]⟩] 1 [.string ⟨#[59]⟩] rfl rfl (by decide) (by decide) (T := [.rule .r_param]) (R := .r_moreParams) (fun cc => row_moreParams cc) (G_proc_1_1.body HP1.out HG1.out) HNN.out HX2.out); clear h2 h3)
     | (go_at_call 96; (with_reducible refine Calls.mono HC2.out ?_); rintro e w2 ⟨rfl, ve2, h2, h3⟩; have HP2 := Lib.hid h2; have HS2 := Lib.hid (HS1.out.trans h3); have HG2 := Lib.hid (mkeep (HT1.out.trans h3) HP0.out HG0.out (by decide) (by decide)); have HT2 := Lib.hid (HT1.out.trans h3); clear bx; have bx := cell_of_row _ _ 0 _ _ _ HG2.out; have HC3 := Lib.hid (words_new HP2.out [⟨#[41]⟩] 1 [.string ⟨#[41]⟩] rfl rfl (by decide) (by decide) HX3.out); clear h2 h3)
     | (go_at_call 58; (with_reducible refine Calls.mono HC3.out ?_); rintro e w3 ⟨rfl, ve3, h3⟩; have HS3 := Lib.hid (HS2.out.trans h3); clear h3))
    exact ⟨rfl, rfl, ve3, HS3.out⟩
set_option maxRecDepth 100000 in
set_option maxHeartbeats 8000000 in
theorem g_proc_1_1 (l : List Tk) (N : Nat) (G_typed : Good l N 91 [.word ⟨#[64, 110, 97, 109, 101]⟩, .rule .r_names, .word ⟨#[58]⟩, .rule .r_kind]) : GoodC l (N + 1) 119 [.rule .r_param] := by
 intro n0 hn W0 A c w0 p g i d out ve r H hg hr
 show Calls Try.prog 119 _ w0 _
 obtain ⟨_, n, rfl, h1⟩ := srun_on hr (s' := ⟨[.word ⟨#[64, 110, 97, 109, 101]⟩, .rule .r_names, .word ⟨#[58]⟩, .rule .r_kind] ++ [.fin 7], i, d + 1, out ++ [evOf (1, 7)]⟩) rfl
 have HP0 := Lib.hid H
 have HG0 := Lib.hid hg
 have HNN : Hid (n ≤ N) := Lib.hid (by omega)
 have HS0 := Lib.hid (PStep.refl p (.slice none 0 0) ve w0)
 have HT0 := HS0
 have bx := cell_of_row _ _ 0 _ _ _ hg
 clear H hg hn
 cases r with
 | ok i1 d1 out1 =>
  have HX1 := Lib.hid h1
  have HC1 := Lib.hid (node_new HP0.out 7 7 rfl (.func (.func 91) #[.pointer (some ⟨p, 0, none⟩)] #[]) 91 (.pointer (some ⟨p, 0, none⟩)) (.inl rfl) (fun w => enters_ Try.func91 (by kernel_rfl) rfl #[(.pointer (some ⟨p, 0, none⟩))] w) (T := [.word ⟨#[64, 110, 97, 109, 101]⟩, .rule .r_names, .word ⟨#[58]⟩, .rule .r_kind]) (G_typed.body) HNN.out HX1.out)
  clear h1 hr
  go_enter Try.func119, Try.ntmps119
  go_wp2_with (first
   | (go_at_call 55; (with_reducible refine Calls.mono HC1.out ?_); rintro e w1 ⟨rfl, ve1, h2, h3⟩; have HP1 := Lib.hid h2; have HS1 := Lib.hid (HS0.out.trans h3); have HG1 := Lib.hid (mkeep (HT0.out.trans h3) HP0.out HG0.out (by decide) (by decide)); have HT1 := Lib.hid (HT0.out.trans h3); clear bx; have bx := cell_of_row _ _ 0 _ _ _ HG1.out; clear h2 h3))
  go_end0
  exact ⟨rfl, ve1, HP1.out, HS1.out⟩
 | err er jj =>
  have HX1 := Lib.hid h1
  have HC1 := Lib.hid (node_new HP0.out 7 7 rfl (.func (.func 91) #[.pointer (some ⟨p, 0, none⟩)] #[]) 91 (.pointer (some ⟨p, 0, none⟩)) (.inl rfl) (fun w => enters_ Try.func91 (by kernel_rfl) rfl #[(.pointer (some ⟨p, 0, none⟩))] w) (T := [.word ⟨#[64, 110, 97, 109, 101]⟩, .rule .r_names, .word ⟨#[58]⟩, .rule .r_kind]) (G_typed.body) HNN.out HX1.out)
  clear h1 hr
  go_enter Try.func119, Try.ntmps119
  go_wp2_with (first
   | (go_at_call 55; (with_reducible refine Calls.mono HC1.out ?_); rintro e w1 ⟨rfl, ve1, h3⟩; have HS1 := Lib.hid (HS0.out.trans h3); clear h3))
  exact ⟨rfl, rfl, ve1, HS1.out⟩
set_option maxRecDepth 100000 in
set_option maxHeartbeats 8000000 in
theorem g_kind_2_1 (l : List Tk) (N : Nat) (G_typed : Good l N 91 [.word ⟨#[64, 110, 97, 109, 101]⟩, .rule .r_names, .word ⟨#[58]⟩, .rule .r_kind]) : GoodC l (N + 1) 139 [.rule .r_member] := by
 intro n0 hn W0 A c w0 p g i d out ve r H hg hr
 show Calls Try.prog 139 _ w0 _
 obtain ⟨_, n, rfl, h1⟩ := srun_on hr (s' := ⟨[.word ⟨#[64, 110, 97, 109, 101]⟩, .rule .r_names, .word ⟨#[58]⟩, .rule .r_kind] ++ [.fin 11], i, d + 1, out ++ [evOf (1, 11)]⟩) rfl
 have HP0 := Lib.hid H
 have HG0 := Lib.hid hg
 have HNN : Hid (n ≤ N) := Lib.hid (by omega)
 have HS0 := Lib.hid (PStep.refl p (.slice none 0 0) ve w0)
 have HT0 := HS0
 have bx := cell_of_row _ _ 0 _ _ _ hg
 clear H hg hn
 cases r with
 | ok i1 d1 out1 =>
  have HX1 := Lib.hid h1
  have HC1 := Lib.hid (node_new HP0.out 11 11 rfl (.func (.func 91) #[.pointer (some ⟨p, 0, none⟩)] #[]) 91 (.pointer (some ⟨p, 0, none⟩)) (.inl rfl) (fun w => enters_ Try.func91 (by kernel_rfl) rfl #[(.pointer (some ⟨p, 0, none⟩))] w) (T := [.word ⟨#[64, 110, 97, 109, 101]⟩, .rule .r_names, .word ⟨#[58]⟩, .rule .r_kind]) (G_typed.body) HNN.out HX1.out)
  clear h1 hr
  go_enter Try.func139, Try.ntmps139
  go_wp2_with (first
   | (go_at_call 55; (with_reducible refine Calls.mono HC1.out ?_); rintro e w1 ⟨rfl, ve1, h2, h3⟩; have HP1 := Lib.hid h2; have HS1 := Lib.hid (HS0.out.trans h3); have HG1 := Lib.hid (mkeep (HT0.out.trans h3) HP0.out HG0.out (by decide) (by decide)); have HT1 := Lib.hid (HT0.out.trans h3); clear bx; have bx := cell_of_row _ _ 0 _ _ _ HG1.out; clear h2 h3))
  go_end0
  exact ⟨rfl, ve1, HP1.out, HS1.out⟩
 | err er jj =>
  have HX1 := Lib.hid h1
  have HC1 := Lib.hid (node_new HP0.out 11 11 rfl (.func (.func 91) #[.pointer (some ⟨p, 0, none⟩)] #[]) 91 (.pointer (some ⟨p, 0, none⟩)) (.inl rfl) (fun w => enters_ Try.func91 (by kernel_rfl) rfl #[(.pointer (some ⟨p, 0, none⟩))] w) (T := [.word ⟨#[64, 110, 97, 109, 101]⟩, .rule .r_names, .word ⟨#[58]⟩, .rule .r_kind]) (G_typed.body) HNN.out HX1.out)
  clear h1 hr
  go_enter Try.func139, Try.ntmps139
  go_wp2_with (first
   | (go_at_call 55; (with_reducible refine Calls.mono HC1.out ?_); rintro e w1 ⟨rfl, ve1, h3⟩; have HS1 := Lib.hid (HS0.out.trans h3); clear h3))
  exact ⟨rfl, rfl, ve1, HS1.out⟩
set_option maxRecDepth 100000 in
set_option maxHeartbeats 8000000 in
theorem g_kind_2 (l : List Tk) (N : Nat) (G_kind_2_1 : GoodC l N 139 [.rule .r_member]) : GoodC l N 138 [.word ⟨#[114, 101, 99, 111, 114, 100]⟩, .rule .r_member, .rule .r_members, .word ⟨#[101, 110, 100]⟩] := by
 intro n hn W0 A c w0 p g i d out ve r H hg hr
 show Calls Try.prog 138 _ w0 _
 have HP0 := Lib.hid H
 have HG0 := Lib.hid hg
 have HNN := Lib.hid hn
 have HS0 := Lib.hid (PStep.refl p (.slice none 0 0) ve w0)
 have HT0 := HS0
 have bx := cell_of_row _ _ 0 _ _ _ hg
 have hr0 : srun l n ⟨([.word ⟨#[114, 101, 99, 111, 114, 100]⟩] ++ ([.rule .r_member, .rule .r_members] ++ [.word ⟨#[101, 110, 100]⟩])), i, d, out⟩ = some r := hr
 clear H hg hn
 rcases srun_app l n [.word ⟨#[114, 101, 99, 111, 114, 100]⟩] ([.rule .r_member, .rule .r_members] ++ [.word ⟨#[101, 110, 100]⟩]) i d out r hr0 with ⟨er, jj, rfl, h1⟩ | ⟨i1, d1, out1, h1, hr1⟩
 ·skip
  have HX1 := Lib.hid h1
  have HC1 := Lib.hid (words_new HP0.out [⟨#[114, 101, 99, 111, 114, 100]⟩] 1 [.string ⟨#[114, 101, 99, 111, 114, 100]⟩] rfl rfl (by decide) (by decide) HX1.out)
  clear h1 hr
  go_enter Try.func138, Try.ntmps138
  go_wp2_with (first
   | (go_at_call 58; (with_reducible refine Calls.mono HC1.out ?_); rintro e w1 ⟨rfl, ve1, h3⟩; have HS1 := Lib.hid (HS0.out.trans h3); clear h3))
  exact ⟨rfl, rfl, ve1, HS1.out⟩
 ·skip
  rcases srun_app l n [.rule .r_member, .rule .r_members] [.word ⟨#[101, 110, 100]⟩] i1 d1 out1 r hr1 with ⟨er, jj, rfl, h2⟩ | ⟨i2, d2, out2, h2, hr2⟩
  ·skip
   have HX1 := Lib.hid h1; have HX2 := Lib.hid h2
   have HC1 := Lib.hid (words_new HP0.out [⟨#[114, 101, 99, 111, 114, 100]⟩] 1 [.string ⟨#[114, 101, 99, 111, 114, 100]⟩] rfl rfl (by decide) (by decide) HX1.out)
   clear h1 h2 hr
   go_enter Try.func138, Try.ntmps138
   go_wp2_with (first
    | (go_at_call 58; (with_reducible refine Calls.mono HC1.out ?_); rintro e w1 ⟨rfl, ve1, h2, h3⟩; have HP1 := Lib.hid h2; have HS1 := Lib.hid (HS0.out.trans h3); have HG1 := Lib.hid (mkeep (HT0.out.trans h3) HP0.out HG0.out (by decide) (by decide)); have HT1 := Lib.hid (HT0.out.trans h3); clear bx; have bx := cell_of_row _ _ 0 _ _ _ HG1.out; have HC2 := Lib.hid (row_new HP1.out (.func (.func 139) #[] #[.pointer (some ⟨g, 0, none⟩)]) 139 (.pointer (some ⟨g, 0, none⟩)) (.inr rfl) (fun w => enters_ Try.func139 (by kernel_rfl) rfl #[(.pointer (some ⟨g, 0, none⟩))] w) [⟨#[59]⟩] 1 [.string ⟨#[59]⟩] rfl rfl (by decide) (by decide) (T := [.rule .r_member]) (R := .r_members) (fun cc => row_members cc) (G_kind_2_1.body HP1.out HG1.out) HNN.out HX2.out); clear h2 h3)
    | (go_at_call 96; (with_reducible refine Calls.mono HC2.out ?_); rintro e w2 ⟨rfl, ve2, h3⟩; have HS2 := Lib.hid (HS1.out.trans h3); clear h3))
   exact ⟨rfl, rfl, ve2, HS2.out⟩
  ·skip
   have h3 := hr2
   cases r with
   | ok i3 d3 out3 =>
    have HX1 := Lib.hid h1; have HX2 := Lib.hid h2; have HX3 := Lib.hid h3
    have HC1 := Lib.hid (words_new HP0.out [⟨#[114, 101, 99, 111, 114, 100]⟩] 1 [.string ⟨#[114, 101, 99, 111, 114, 100]⟩] rfl rfl (by decide) (by decide) HX1.out)
    clear h1 h2 h3 hr
    go_enter Try.func138, Try.ntmps138
    go_wp2_with (first
     | (go_at_call 58; (with_reducible refine Calls.mono HC1.out ?_); rintro e w1 ⟨rfl, ve1, h2, h3⟩; have HP1 := Lib.hid h2; have HS1 := Lib.hid (HS0.out.trans h3); have HG1 := Lib.hid (mkeep (HT0.out.trans h3) HP0.out HG0.out (by decide) (by decide)); have HT1 := Lib.hid (HT0.out.trans h3); clear bx; have bx := cell_of_row _ _ 0 _ _ _ HG1.out; have HC2 := Lib.hid (row_new HP1.out (.func (.func 139) #[] #[.pointer (some ⟨g, 0, none⟩)]) 139 (.pointer (some ⟨g, 0, none⟩)) (.inr rfl) (fun w => enters_ Try.func139 (by kernel_rfl) rfl #[(.pointer (some ⟨g, 0, none⟩))] w) [⟨#[59]⟩] 1 [.string ⟨#[59]⟩] rfl rfl (by decide) (by decide) (T := [.rule .r_member]) (R := .r_members) (fun cc => row_members cc) (G_kind_2_1.body HP1.out HG1.out) HNN.out HX2.out); clear h2 h3)
     | (go_at_call 96; (with_reducible refine Calls.mono HC2.out ?_); rintro e w2 ⟨rfl, ve2, h2, h3⟩; have HP2 := Lib.hid h2; have HS2 := Lib.hid (HS1.out.trans h3); have HG2 := Lib.hid (mkeep (HT1.out.trans h3) HP0.out HG0.out (by decide) (by decide)); have HT2 := Lib.hid (HT1.out.trans h3); clear bx; have bx := cell_of_row _ _ 0 _ _ _ HG2.out; have HC3 := Lib.hid (words_new HP2.out [⟨#[101, 110, 100]⟩] 1 [.string ⟨#[101, 110, 100]⟩] rfl rfl (by decide) (by decide) HX3.out); clear h2 h3)
     | (go_at_call 58; (with_reducible refine Calls.mono HC3.out ?_); rintro e w3 ⟨rfl, ve3, h2, h3⟩; have HP3 := Lib.hid h2; have HS3 := Lib.hid (HS2.out.trans h3); have HG3 := Lib.hid (mkeep (HT2.out.trans h3) HP0.out HG0.out (by decide) (by decide)); have HT3 := Lib.hid (HT2.out.trans h3); clear bx; have bx := cell_of_row _ _ 0 _ _ _ HG3.out; clear h2 h3))
    go_end0
    exact ⟨rfl, ve3, HP3.out, HS3.out⟩
   | err er jj =>
    have HX1 := Lib.hid h1; have HX2 := Lib.hid h2; have HX3 := Lib.hid h3
    have HC1 := Lib.hid (words_new HP0.out [⟨#[114, 101, 99, 111, 114, 100]⟩] 1 [.string ⟨#[114, 101, 99, 111, 114, 100]⟩] rfl rfl (by decide) (by decide) HX1.out)
    clear h1 h2 h3 hr
    go_enter Try.func138, Try.ntmps138
    go_wp2_with (first
     | (go_at_call 58; (with_reducible refine Calls.mono HC1.out ?_); rintro e w1 ⟨rfl, ve1, h2, h3⟩; have HP1 := Lib.hid h2; have HS1 := Lib.hid (HS0.out.trans h3); have HG1 := Lib.hid (mkeep (HT0.out.trans h3) HP0.out HG0.out (by decide) (by decide)); have HT1 := Lib.hid (HT0.out.trans h3); clear bx; have bx := cell_of_row _ _ 0 _ _ _ HG1.out; have HC2 := Lib.hid (row_new HP1.out (.func (.func 139) #[] #[.pointer (some ⟨g, 0, none⟩)]) 139 (.pointer (some ⟨g, 0, none⟩)) (.inr rfl) (fun w => enters_ Try.func139 (by kernel_rfl) rfl #[(.pointer (some ⟨g, 0, none⟩))] w) [⟨#[59]⟩] 1 [.string ⟨#[59]⟩] rfl rfl (by decide) (by decide) (T := [.rule .r_member]) (R := .r_members) (fun cc => row_members cc) (G_kind_2_1.body HP1.out HG1.out) HNN.out HX2.out); clear h2 h3)
     | (go_at_call 96; (with_reducible refine Calls.mono HC2.out ?_); rintro e w2 ⟨rfl, ve2, h2, h3⟩; have HP2 := Lib.hid h2; have HS2 := Lib.hid (HS1.out.trans h3); have HG2 := Lib.hid (mkeep (HT1.out.trans h3) HP0.out HG0.out (by decide) (by decide)); have HT2 := Lib.hid (HT1.out.trans h3); clear bx; have bx := cell_of_row _ _ 0 _ _ _ HG2.out; have HC3 := Lib.hid (words_new HP2.out [⟨#[101, 110, 100]⟩] 1 [.string ⟨#[101, 110, 100]⟩] rfl rfl (by decide) (by decide) HX3.out); clear h2 h3)
     | (go_at_call 58; (with_reducible refine Calls.mono HC3.out ?_); rintro e w3 ⟨rfl, ve3, h3⟩; have HS3 := Lib.hid (HS2.out.trans h3); clear h3))
    exact ⟨rfl, rfl, ve3, HS3.out⟩
set_option maxRecDepth 100000 in
set_option maxHeartbeats 8000000 in
theorem g_typed (l : List Tk) (N : Nat) (G_name : Good l N 59 [.word ⟨#[64, 110, 97, 109, 101]⟩]) (G_kind : Good l N 115 [.rule .r_kind]) : Good l N 91 [.word ⟨#[64, 110, 97, 109, 101]⟩, .rule .r_names, .word ⟨#[58]⟩, .rule .r_kind] := by
 intro n hn W0 A c w0 p i d out ve r H hr
 show Calls Try.prog 91 _ w0 _
 have HP0 := Lib.hid H
 have HNN := Lib.hid hn
 have HS0 := Lib.hid (PStep.refl p (.slice none 0 0) ve w0)
 have hr0 : srun l n ⟨([.word ⟨#[64, 110, 97, 109, 101]⟩, .rule .r_names] ++ ([.word ⟨#[58]⟩] ++ [.rule .r_kind])), i, d, out⟩ = some r := hr
 clear H hn
 rcases srun_app l n [.word ⟨#[64, 110, 97, 109, 101]⟩, .rule .r_names] ([.word ⟨#[58]⟩] ++ [.rule .r_kind]) i d out r hr0 with ⟨er, jj, rfl, h1⟩ | ⟨i1, d1, out1, h1, hr1⟩
 ·skip
  have HX1 := Lib.hid h1
  have HC1 := Lib.hid (row_new HP0.out (.func (.func 59) #[.pointer (some ⟨p, 0, none⟩)] #[]) 59 (.pointer (some ⟨p, 0, none⟩)) (.inl rfl) (fun w => enters_ Try.func59 (by kernel_rfl) rfl #[(.pointer (some ⟨p, 0, none⟩))] w) [⟨#[44]⟩] 1 [.string ⟨#[44]⟩] rfl rfl (by decide) (by decide) (T := [.word ⟨#[64, 110, 97, 109, 101]⟩]) (R := .r_names) (fun cc => row_names cc) (G_name.body) HNN.out HX1.out)
  clear h1 hr
  go_enter Try.func91, Try.ntmps91
  go_wp2_with (first
   | (go_at_call 96; (with_reducible refine Calls.mono HC1.out ?_); rintro e w1 ⟨rfl, ve1, h3⟩; have HS1 := Lib.hid (HS0.out.trans h3); clear h3))
  exact ⟨rfl, rfl, ve1, HS1.out⟩
 ·skip
  rcases srun_app l n [.word ⟨#[58]⟩] [.rule .r_kind] i1 d1 out1 r hr1 with ⟨er, jj, rfl, h2⟩ | ⟨i2, d2, out2, h2, hr2⟩
  ·skip
   have HX1 := Lib.hid h1; have HX2 := Lib.hid h2
   have HC1 := Lib.hid (row_new HP0.out (.func (.func 59) #[.pointer (some ⟨p, 0, none⟩)] #[]) 59 (.pointer (some ⟨p, 0, none⟩)) (.inl rfl) (fun w => enters_ Try.func59 (by kernel_rfl) rfl #[(.pointer (some ⟨p, 0, none⟩))] w) [⟨#[44]⟩] 1 [.string ⟨#[44]⟩] rfl rfl (by decide) (by decide) (T := [.word ⟨#[64, 110, 97, 109, 101]⟩]) (R := .r_names) (fun cc => row_names cc) (G_name.body) HNN.out HX1.out)
   clear h1 h2 hr
   go_enter Try.func91, Try.ntmps91
   go_wp2_with (first
    | (go_at_call 96; (with_reducible refine Calls.mono HC1.out ?_); rintro e w1 ⟨rfl, ve1, h2, h3⟩; have HP1 := Lib.hid h2; have HS1 := Lib.hid (HS0.out.trans h3); have HC2 := Lib.hid (words_new HP1.out [⟨#[58]⟩] 1 [.string ⟨#[58]⟩] rfl rfl (by decide) (by decide) HX2.out); clear h2 h3)
    | (go_at_call 58; (with_reducible refine Calls.mono HC2.out ?_); rintro e w2 ⟨rfl, ve2, h3⟩; have HS2 := Lib.hid (HS1.out.trans h3); clear h3))
   exact ⟨rfl, rfl, ve2, HS2.out⟩
  ·skip
   have h3 := hr2
   cases r with
   | ok i3 d3 out3 =>
    have HX1 := Lib.hid h1; have HX2 := Lib.hid h2; have HX3 := Lib.hid h3
    have HC1 := Lib.hid (row_new HP0.out (.func (.func 59) #[.pointer (some ⟨p, 0, none⟩)] #[]) 59 (.pointer (some ⟨p, 0, none⟩)) (.inl rfl) (fun w => enters_ Try.func59 (by kernel_rfl) rfl #[(.pointer (some ⟨p, 0, none⟩))] w) [⟨#[44]⟩] 1 [.string ⟨#[44]⟩] rfl rfl (by decide) (by decide) (T := [.word ⟨#[64, 110, 97, 109, 101]⟩]) (R := .r_names) (fun cc => row_names cc) (G_name.body) HNN.out HX1.out)
    clear h1 h2 h3 hr
    go_enter Try.func91, Try.ntmps91
    go_wp2_with (first
     | (go_at_call 96; (with_reducible refine Calls.mono HC1.out ?_); rintro e w1 ⟨rfl, ve1, h2, h3⟩; have HP1 := Lib.hid h2; have HS1 := Lib.hid (HS0.out.trans h3); have HC2 := Lib.hid (words_new HP1.out [⟨#[58]⟩] 1 [.string ⟨#[58]⟩] rfl rfl (by decide) (by decide) HX2.out); clear h2 h3)
     | (go_at_call 58; (with_reducible refine Calls.mono HC2.out ?_); rintro e w2 ⟨rfl, ve2, h2, h3⟩; have HP2 := Lib.hid h2; have HS2 := Lib.hid (HS1.out.trans h3); have HC3 := Lib.hid (G_kind n HNN.out W0 A c w2 p i2 d2 out2 ve2 _ HP2.out HX3.out); clear h2 h3)
     | (go_at_call 115; (with_reducible refine Calls.mono HC3.out ?_); rintro e w3 ⟨rfl, ve3, h2, h3⟩; have HP3 := Lib.hid h2; have HS3 := Lib.hid (HS2.out.trans h3); clear h2 h3))
    go_end0
    exact ⟨rfl, ve3, HP3.out, HS3.out⟩
   | err er jj =>
    have HX1 := Lib.hid h1; have HX2 := Lib.hid h2; have HX3 := Lib.hid h3
    have HC1 := Lib.hid (row_new HP0.out (.func (.func 59) #[.pointer (some ⟨p, 0, none⟩)] #[]) 59 (.pointer (some ⟨p, 0, none⟩)) (.inl rfl) (fun w => enters_ Try.func59 (by kernel_rfl) rfl #[(.pointer (some ⟨p, 0, none⟩))] w) [⟨#[44]⟩] 1 [.string ⟨#[44]⟩] rfl rfl (by decide) (by decide) (T := [.word ⟨#[64, 110, 97, 109, 101]⟩]) (R := .r_names) (fun cc => row_names cc) (G_name.body) HNN.out HX1.out)
    clear h1 h2 h3 hr
    go_enter Try.func91, Try.ntmps91
    go_wp2_with (first
     | (go_at_call 96; (with_reducible refine Calls.mono HC1.out ?_); rintro e w1 ⟨rfl, ve1, h2, h3⟩; have HP1 := Lib.hid h2; have HS1 := Lib.hid (HS0.out.trans h3); have HC2 := Lib.hid (words_new HP1.out [⟨#[58]⟩] 1 [.string ⟨#[58]⟩] rfl rfl (by decide) (by decide) HX2.out); clear h2 h3)
     | (go_at_call 58; (with_reducible refine Calls.mono HC2.out ?_); rintro e w2 ⟨rfl, ve2, h2, h3⟩; have HP2 := Lib.hid h2; have HS2 := Lib.hid (HS1.out.trans h3); have HC3 := Lib.hid (G_kind n HNN.out W0 A c w2 p i2 d2 out2 ve2 _ HP2.out HX3.out); clear h2 h3)
     | (go_at_call 115; (with_reducible refine Calls.mono HC3.out ?_); rintro e w3 ⟨rfl, ve3, h3⟩; have HS3 := Lib.hid (HS2.out.trans h3); clear h3))
    exact ⟨rfl, rfl, ve3, HS3.out⟩
end Go.Proofs.Ytmjbpgnjgblnmaa
