/- What the claim stands on: part Jj. -/
import Derived.Test.YtmjbpgnjgblnmaaJf
set_option linter.unusedVariables false
set_option linter.unusedSimpArgs false
namespace Go.Proofs.Ytmjbpgnjgblnmaa
open Go.RowKit Go.Proofs.YtmjbpgnjgblnmaaW.PrintWords Go.Proofs.YtmjbpgnjgblnmaaW.PrintLast Go.Proofs.YtmjbpgnjgblnmaaW.PrintMore
theorem yes_typed {cc : ByteArray} (h : inL cc [⟨#[58]⟩] = true) : RId.expand .r_typed cc = some [.push [.word ⟨#[58]⟩, .rule .r_kind]] := by
 have h1 : cc = ⟨#[58]⟩ := one_of h
 subst h1
 rfl
theorem no_typed {cc : ByteArray} (h : inL cc [⟨#[58]⟩] = false) : RId.expand .r_typed cc = some [] := by
 have h1 : ¬ (cc = ⟨#[58]⟩) := none_of h _ List.mem_cons_self
 simp only [RId.expand]
 rw [if_neg h1]
theorem no_params {cc : ByteArray} (h : inL cc [⟨#[40]⟩] = false) : RId.expand .r_params cc = some [] := by
 have h1 : ¬ (cc = ⟨#[40]⟩) := none_of h _ List.mem_cons_self
 simp only [RId.expand]
 rw [if_neg h1]
set_option maxRecDepth 100000 in
set_option maxHeartbeats 8000000 in
theorem g_proc (l : List Tk) (N : Nat) (G_proc_1 : GoodC l N 118 [.word ⟨#[40]⟩, .rule .r_param, .rule .r_moreParams, .word ⟨#[41]⟩]) (G_kind : Good l N 115 [.rule .r_kind]) (G_block : Good l N 60 [.rule .r_block]) : Good l N 94 [.word ⟨#[112, 114, 111, 99]⟩, .word ⟨#[64, 110, 97, 109, 101]⟩, .rule .r_params, .rule .r_typed, .word ⟨#[59]⟩, .rule .r_block, .word ⟨#[59]⟩] := by
 intro n hn W0 A c w p i d out ve r H hr
 show Calls Try.prog 94 _ w _
 have HNN := Lib.hid hn
 have hr0 : srun l n ⟨([.word ⟨#[112, 114, 111, 99]⟩] ++ ([.word ⟨#[64, 110, 97, 109, 101]⟩] ++ ([.rule .r_params] ++ ([.rule .r_typed] ++ ([.word ⟨#[59]⟩] ++ ([.rule .r_block] ++ [.word ⟨#[59]⟩])))))), i, d, out⟩ = some r := hr
 clear hn
 obtain ⟨w0, hw0⟩ : ∃ V, w.alloc (.cells #[.pointer (some ⟨p, 0, none⟩)] 83) = V := ⟨_, rfl⟩
 have hb0 : Below w.heap.size w w0 := by rw [← hw0]; exact (Below.refl _ w).alloc (Nat.le_refl _) _
 have hg : w0.heap[w.heap.size]? = some (.cells #[.pointer (some ⟨p, 0, none⟩)] 83 (0, 0)) := by rw [← hw0]; exact World.alloc_heap_new _ _
 have HWB := Lib.hid hw0
 have HP0 := Lib.hid (H.moved hb0)
 have HS0 := Lib.hid (PStep.below hb0 : MStep p ve w ve w0)
 have HT0 := Lib.hid (PStep.refl p (.slice none 0 0) ve w0)
 obtain ⟨g, hge⟩ : ∃ g, w.heap.size = g := ⟨_, rfl⟩
 rw [hge] at hg
 have HGE := Lib.hid hge
 have HG0 := Lib.hid hg
 have bx := cell_of_row _ _ 0 _ _ _ hg
 clear hw0 hb0 hg hge H
 rcases srun_app l n [.word ⟨#[112, 114, 111, 99]⟩] ([.word ⟨#[64, 110, 97, 109, 101]⟩] ++ ([.rule .r_params] ++ ([.rule .r_typed] ++ ([.word ⟨#[59]⟩] ++ ([.rule .r_block] ++ [.word ⟨#[59]⟩]))))) i d out r hr0 with ⟨er, jj, rfl, h1⟩ | ⟨i1, d1, out1, h1, hr1⟩
 ·skip
  have HX1 := Lib.hid h1
  have HC1 := Lib.hid (words_new HP0.out [⟨#[112, 114, 111, 99]⟩] 1 [.string ⟨#[112, 114, 111, 99]⟩] rfl rfl (by decide) (by decide) HX1.out)
  clear h1
  (try clear hr)
  go_enter Try.func94, Try.ntmps94
  go_upto_region 1 with (fail)
  rw [HWB.out, HGE.out]
  go_wp2_with (first
   | (go_at_call 58; (with_reducible refine Calls.mono HC1.out ?_); rintro e w1 ⟨rfl, ve1, h3⟩; have HS1 := Lib.hid (HS0.out.trans h3); clear h3))
  exact ⟨rfl, rfl, ve1, HS1.out⟩
 ·skip
  rcases srun_app l n [.word ⟨#[64, 110, 97, 109, 101]⟩] ([.rule .r_params] ++ ([.rule .r_typed] ++ ([.word ⟨#[59]⟩] ++ ([.rule .r_block] ++ [.word ⟨#[59]⟩])))) i1 d1 out1 r hr1 with ⟨er, jj, rfl, h2⟩ | ⟨i2, d2, out2, h2, hr2⟩
  ·skip
   have HX1 := Lib.hid h1; have HX2 := Lib.hid h2
   have HC1 := Lib.hid (words_new HP0.out [⟨#[112, 114, 111, 99]⟩] 1 [.string ⟨#[112, 114, 111, 99]⟩] rfl rfl (by decide) (by decide) HX1.out)
   clear h1 h2
   (try clear hr)
   go_enter Try.func94, Try.ntmps94
   go_upto_region 1 with (fail)
   rw [HWB.out, HGE.out]
   go_wp2_with (first
    | (go_at_call 58; (with_reducible refine Calls.mono HC1.out ?_); rintro e w1 ⟨rfl, ve1, h2, h3⟩; have HP1 := Lib.hid h2; have HS1 := Lib.hid (HS0.out.trans h3); have HG1 := Lib.hid (mkeep (HT0.out.trans h3) HP0.out HG0.out (by decide) (by decide)); have HT1 := Lib.hid (HT0.out.trans h3); clear bx; have bx := cell_of_row _ _ 0 _ _ _ HG1.out; have HC2 := Lib.hid (name_any l N n HNN.out W0 A c w1 p i1 d1 out1 ve1 _ HP1.out HX2.out); clear h2 h3)
    | (go_at_call 59; (with_reducible refine Calls.mono HC2.out ?_); rintro e w2 ⟨rfl, ve2, h3⟩; have HS2 := Lib.hid (HS1.out.trans h3); clear h3))
   exact ⟨rfl, rfl, ve2, HS2.out⟩
  ·skip
   by_cases hin3' : inL (cAt l i2) [⟨#[40]⟩] = true
   ·have hin3 := hin3'
    clear hin3'
    have hr3 := hr2
    rcases srun_app l n [.rule .r_params] ([.rule .r_typed] ++ ([.word ⟨#[59]⟩] ++ ([.rule .r_block] ++ [.word ⟨#[59]⟩]))) i2 d2 out2 r hr3 with ⟨er, jj, rfl, h4⟩ | ⟨i4, d4, out4, h4, hr4⟩
    ·skip
     have HX1 := Lib.hid h1; have HX2 := Lib.hid h2; have HX4 := Lib.hid h4
     have HI3 := Lib.hid hin3
     have HC1 := Lib.hid (words_new HP0.out [⟨#[112, 114, 111, 99]⟩] 1 [.string ⟨#[112, 114, 111, 99]⟩] rfl rfl (by decide) (by decide) HX1.out)
     clear h1 h2 h4 hin3
     (try clear hr)
     go_enter Try.func94, Try.ntmps94
     go_upto_region 1 with (fail)
     rw [HWB.out, HGE.out]
     go_wp2_with (first
      | (go_at_call 58; (with_reducible refine Calls.mono HC1.out ?_); rintro e w1 ⟨rfl, ve1, h2, h3⟩; have HP1 := Lib.hid h2; have HS1 := Lib.hid (HS0.out.trans h3); have HG1 := Lib.hid (mkeep (HT0.out.trans h3) HP0.out HG0.out (by decide) (by decide)); have HT1 := Lib.hid (HT0.out.trans h3); clear bx; have bx := cell_of_row _ _ 0 _ _ _ HG1.out; have HC2 := Lib.hid (name_any l N n HNN.out W0 A c w1 p i1 d1 out1 ve1 _ HP1.out HX2.out); clear h2 h3)
      | (go_at_call 59; (with_reducible refine Calls.mono HC2.out ?_); rintro e w2 ⟨rfl, ve2, h2, h3⟩; have HP2 := Lib.hid h2; have HS2 := Lib.hid (HS1.out.trans h3); have HG2 := Lib.hid (mkeep (HT1.out.trans h3) HP0.out HG0.out (by decide) (by decide)); have HT2 := Lib.hid (HT1.out.trans h3); clear bx; have bx := cell_of_row _ _ 0 _ _ _ HG2.out; have HC3 := Lib.hid ((by have h := is_new HP2.out [⟨#[40]⟩] 1 [.string ⟨#[40]⟩] rfl rfl (by decide) (by decide); rw [HI3.out] at h; exact h)); clear h2 h3)
      | (go_at_call 71; (with_reducible refine Calls.mono HC3.out ?_); rintro e w3 ⟨rfl, hb⟩; have h3 : MStep p ve2 w2 ve2 w3 := PStep.below hb; have HP3 := Lib.hid (HP2.out.moved hb); have HS3 := Lib.hid (HS2.out.trans h3); have HG3 := Lib.hid (mkeep (HT2.out.trans h3) HP0.out HG0.out (by decide) (by decide)); have HT3 := Lib.hid (HT2.out.trans h3); clear bx; have bx := cell_of_row _ _ 0 _ _ _ HG3.out; have HC4 := Lib.hid (node_rule HP3.out 6 6 rfl (.func (.func 118) #[] #[.pointer (some ⟨g, 0, none⟩)]) 118 (.pointer (some ⟨g, 0, none⟩)) (.inr rfl) (fun w => enters_ Try.func118 (by kernel_rfl) rfl #[(.pointer (some ⟨g, 0, none⟩))] w) (T := [.word ⟨#[40]⟩, .rule .r_param, .rule .r_moreParams, .word ⟨#[41]⟩]) (R := .r_params) (by rw [one_of HI3.out]; rfl) (G_proc_1.body HP3.out HG3.out) (Nat.le_succ_of_le HNN.out) HX4.out); clear hb h3)
      | (go_at_call 55; (with_reducible refine Calls.mono HC4.out ?_); rintro e w4 ⟨rfl, ve4, h3⟩; have HS4 := Lib.hid (HS3.out.trans h3); clear h3))
     exact ⟨rfl, rfl, ve4, HS4.out⟩
    ·skip
     by_cases hin5' : inL (cAt l i4) [⟨#[58]⟩] = true
     ·have hin5 := hin5'
      clear hin5'
      have hr5 : srun l n ⟨([.word ⟨#[58]⟩] ++ ([.rule .r_kind] ++ ([.word ⟨#[59]⟩] ++ ([.rule .r_block] ++ [.word ⟨#[59]⟩])))), i4, d4, out4⟩ = some r := by
       have h := if_yes (S := ([.word ⟨#[59]⟩] ++ ([.rule .r_block] ++ [.word ⟨#[59]⟩]))) (yes_typed hin5) hr4
       exact h
      rcases srun_app l n [.word ⟨#[58]⟩] ([.rule .r_kind] ++ ([.word ⟨#[59]⟩] ++ ([.rule .r_block] ++ [.word ⟨#[59]⟩]))) i4 d4 out4 r hr5 with ⟨er, jj, rfl, h6⟩ | ⟨i6, d6, out6, h6, hr6⟩
      ·skip
       have HX1 := Lib.hid h1; have HX2 := Lib.hid h2; have HX4 := Lib.hid h4; have HX6 := Lib.hid h6
       have HI3 := Lib.hid hin3; have HI5 := Lib.hid hin5
       have HC1 := Lib.hid (words_new HP0.out [⟨#[112, 114, 111, 99]⟩] 1 [.string ⟨#[112, 114, 111, 99]⟩] rfl rfl (by decide) (by decide) HX1.out)
       clear h1 h2 h4 h6 hin3 hin5
       (try clear hr)
       go_enter Try.func94, Try.ntmps94
       go_upto_region 1 with (fail)
       rw [HWB.out, HGE.out]
       go_wp2_with (first
        | (go_at_call 58; (with_reducible refine Calls.mono HC1.out ?_); rintro e w1 ⟨rfl, ve1, h2, h3⟩; have HP1 := Lib.hid h2; have HS1 := Lib.hid (HS0.out.trans h3); have HG1 := Lib.hid (mkeep (HT0.out.trans h3) HP0.out HG0.out (by decide) (by decide)); have HT1 := Lib.hid (HT0.out.trans h3); clear bx; have bx := cell_of_row _ _ 0 _ _ _ HG1.out; have HC2 := Lib.hid (name_any l N n HNN.out W0 A c w1 p i1 d1 out1 ve1 _ HP1.out HX2.out); clear h2 h3)
        | (go_at_call 59; (with_reducible refine Calls.mono HC2.out ?_); rintro e w2 ⟨rfl, ve2, h2, h3⟩; have HP2 := Lib.hid h2; have HS2 := Lib.hid (HS1.out.trans h3); have HG2 := Lib.hid (mkeep (HT1.out.trans h3) HP0.out HG0.out (by decide) (by decide)); have HT2 := Lib.hid (HT1.out.trans h3); clear bx; have bx := cell_of_row _ _ 0 _ _ _ HG2.out; have HC3 := Lib.hid ((by have h := is_new HP2.out [⟨#[40]⟩] 1 [.string ⟨#[40]⟩] rfl rfl (by decide) (by decide); rw [HI3.out] at h; exact h)); clear h2 h3)
        | (go_at_call 71; (with_reducible refine Calls.mono HC3.out ?_); rintro e w3 ⟨rfl, hb⟩; have h3 : MStep p ve2 w2 ve2 w3 := PStep.below hb; have HP3 := Lib.hid (HP2.out.moved hb); have HS3 := Lib.hid (HS2.out.trans h3); have HG3 := Lib.hid (mkeep (HT2.out.trans h3) HP0.out HG0.out (by decide) (by decide)); have HT3 := Lib.hid (HT2.out.trans h3); clear bx; have bx := cell_of_row _ _ 0 _ _ _ HG3.out; have HC4 := Lib.hid (node_rule HP3.out 6 6 rfl (.func (.func 118) #[] #[.pointer (some ⟨g, 0, none⟩)]) 118 (.pointer (some ⟨g, 0, none⟩)) (.inr rfl) (fun w => enters_ Try.func118 (by kernel_rfl) rfl #[(.pointer (some ⟨g, 0, none⟩))] w) (T := [.word ⟨#[40]⟩, .rule .r_param, .rule .r_moreParams, .word ⟨#[41]⟩]) (R := .r_params) (by rw [one_of HI3.out]; rfl) (G_proc_1.body HP3.out HG3.out) (Nat.le_succ_of_le HNN.out) HX4.out); clear hb h3)
        | (go_at_call 55; (with_reducible refine Calls.mono HC4.out ?_); rintro e w4 ⟨rfl, ve4, h2, h3⟩; have HP4 := Lib.hid h2; have HS4 := Lib.hid (HS3.out.trans h3); have HG4 := Lib.hid (mkeep (HT3.out.trans h3) HP0.out HG0.out (by decide) (by decide)); have HT4 := Lib.hid (HT3.out.trans h3); clear bx; have bx := cell_of_row _ _ 0 _ _ _ HG4.out; have HC5 := Lib.hid ((by have h := is_new HP4.out [⟨#[58]⟩] 1 [.string ⟨#[58]⟩] rfl rfl (by decide) (by decide); rw [HI5.out] at h; exact h)); clear h2 h3)
        | (go_at_call 71; (with_reducible refine Calls.mono HC5.out ?_); rintro e w5 ⟨rfl, hb⟩; have h3 : MStep p ve4 w4 ve4 w5 := PStep.below hb; have HP5 := Lib.hid (HP4.out.moved hb); have HS5 := Lib.hid (HS4.out.trans h3); have HG5 := Lib.hid (mkeep (HT4.out.trans h3) HP0.out HG0.out (by decide) (by decide)); have HT5 := Lib.hid (HT4.out.trans h3); clear bx; have bx := cell_of_row _ _ 0 _ _ _ HG5.out; have HC6 := Lib.hid (words_new HP5.out [⟨#[58]⟩] 1 [.string ⟨#[58]⟩] rfl rfl (by decide) (by decide) HX6.out); clear hb h3)
        | (go_at_call 58; (with_reducible refine Calls.mono HC6.out ?_); rintro e w6 ⟨rfl, ve6, h3⟩; have HS6 := Lib.hid (HS5.out.trans h3); clear h3))
       exact ⟨rfl, rfl, ve6, HS6.out⟩
      ·skip
       rcases srun_app l n [.rule .r_kind] ([.word ⟨#[59]⟩] ++ ([.rule .r_block] ++ [.word ⟨#[59]⟩])) i6 d6 out6 r hr6 with ⟨er, jj, rfl, h7⟩ | ⟨i7, d7, out7, h7, hr7⟩
       ·skip
        have HX1 := Lib.hid h1; have HX2 := Lib.hid h2; have HX4 := Lib.hid h4; have HX6 := Lib.hid h6; have HX7 := Lib.hid h7
        have HI3 := Lib.hid hin3; have HI5 := Lib.hid hin5
        have HC1 := Lib.hid (words_new HP0.out [⟨#[112, 114, 111, 99]⟩] 1 [.string ⟨#[112, 114, 111, 99]⟩] rfl rfl (by decide) (by decide) HX1.out)
        clear h1 h2 h4 h6 h7 hin3 hin5
        (try clear hr)
        go_enter Try.func94, Try.ntmps94
        go_upto_region 1 with (fail)
        rw [HWB.out, HGE.out]
        go_wp2_with (first
         | (go_at_call 58; (with_reducible refine Calls.mono HC1.out ?_); rintro e w1 ⟨rfl, ve1, h2, h3⟩; have HP1 := Lib.hid h2; have HS1 := Lib.hid (HS0.out.trans h3); have HG1 := Lib.hid (mkeep (HT0.out.trans h3) HP0.out HG0.out (by decide) (by decide)); have HT1 := Lib.hid (HT0.out.trans h3); clear bx; have bx := cell_of_row _ _ 0 _ _ _ HG1.out; have HC2 := Lib.hid (name_any l N n HNN.out W0 A c w1 p i1 d1 out1 ve1 _ HP1.out HX2.out); clear h2 h3)
         | (go_at_call 59; (with_reducible refine Calls.mono HC2.out ?_); rintro e w2 ⟨rfl, ve2, h2, h3⟩; have HP2 := Lib.hid h2; have HS2 := Lib.hid (HS1.out.trans h3); have HG2 := Lib.hid (mkeep (HT1.out.trans h3) HP0.out HG0.out (by decide) (by decide)); have HT2 := Lib.hid (HT1.out.trans h3); clear bx; have bx := cell_of_row _ _ 0 _ _ _ HG2.out; have HC3 := Lib.hid ((by have h := is_new HP2.out [⟨#[40]⟩] 1 [.string ⟨#[40]⟩] rfl rfl (by decide) (by decide); rw [HI3.out] at h; exact h)); clear h2 h3)
         | (go_at_call 71; (with_reducible refine Calls.mono HC3.out ?_); rintro e w3 ⟨rfl, hb⟩; have h3 : MStep p ve2 w2 ve2 w3 := PStep.below hb; have HP3 := Lib.hid (HP2.out.moved hb); have HS3 := Lib.hid (HS2.out.trans h3); have HG3 := Lib.hid (mkeep (HT2.out.trans h3) HP0.out HG0.out (by decide) (by decide)); have HT3 := Lib.hid (HT2.out.trans h3); clear bx; have bx := cell_of_row _ _ 0 _ _ _ HG3.out; have HC4 := Lib.hid (node_rule HP3.out 6 6 rfl (.func (.func 118) #[] #[.pointer (some ⟨g, 0, none⟩)]) 118 (.pointer (some ⟨g, 0, none⟩)) (.inr rfl) (fun w => enters_ Try.func118 (by kernel_rfl) rfl #[(.pointer (some ⟨g, 0, none⟩))] w) (T := [.word ⟨#[40]⟩, .rule .r_param, .rule .r_moreParams, .word ⟨#[41]⟩]) (R := .r_params) (by rw [one_of HI3.out]; rfl) (G_proc_1.body HP3.out HG3.out) (Nat.le_succ_of_le HNN.out) HX4.out); clear hb h3)
         | (go_at_call 55; (with_reducible refine Calls.mono HC4.out ?_); rintro e w4 ⟨rfl, ve4, h2, h3⟩; have HP4 := Lib.hid h2; have HS4 := Lib.hid (HS3.out.trans h3); have HG4 := Lib.hid (mkeep (HT3.out.trans h3) HP0.out HG0.out (by decide) (by decide)); have HT4 := Lib.hid (HT3.out.trans h3); clear bx; have bx := cell_of_row _ _ 0 _ _ _ HG4.out; have HC5 := Lib.hid ((by have h := is_new HP4.out [⟨#[58]⟩] 1 [.string ⟨#[58]⟩] rfl rfl (by decide) (by decide); rw [HI5.out] at h; exact h)); clear h2 h3)
         | (go_at_call 71; (with_reducible refine Calls.mono HC5.out ?_); rintro e w5 ⟨rfl, hb⟩; have h3 : MStep p ve4 w4 ve4 w5 := PStep.below hb; have HP5 := Lib.hid (HP4.out.moved hb); have HS5 := Lib.hid (HS4.out.trans h3); have HG5 := Lib.hid (mkeep (HT4.out.trans h3) HP0.out HG0.out (by decide) (by decide)); have HT5 := Lib.hid (HT4.out.trans h3); clear bx; have bx := cell_of_row _ _ 0 _ _ _ HG5.out; have HC6 := Lib.hid (words_new HP5.out [⟨#[58]⟩] 1 [.string ⟨#[58]⟩] rfl rfl (by decide) (by decide) HX6.out); clear hb h3)
         | (go_at_call 58; (with_reducible refine Calls.mono HC6.out ?_); rintro e w6 ⟨rfl, ve6, h2, h3⟩; have HP6 := Lib.hid h2; have HS6 := Lib.hid (HS5.out.trans h3); have HG6 := Lib.hid (mkeep (HT5.out.trans h3) HP0.out HG0.out (by decide) (by decide)); have HT6 := Lib.hid (HT5.out.trans h3); clear bx; have bx := cell_of_row _ _ 0 _ _ _ HG6.out; have HC7 := Lib.hid (G_kind n HNN.out W0 A c w6 p i6 d6 out6 ve6 _ HP6.out HX7.out); clear h2 h3)
         | (go_at_call 115; (with_reducible refine Calls.mono HC7.out ?_); rintro e w7 ⟨rfl, ve7, h3⟩; have HS7 := Lib.hid (HS6.out.trans h3); clear h3))
        exact ⟨rfl, rfl, ve7, HS7.out⟩
       ·skip
        rcases srun_app l n [.word ⟨#[59]⟩] ([.rule .r_block] ++ [.word ⟨#[59]⟩]) i7 d7 out7 r hr7 with ⟨er, jj, rfl, h8⟩ | ⟨i8, d8, out8, h8, hr8⟩
        ·skip
         have HX1 := Lib.hid h1; have HX2 := Lib.hid h2; have HX4 := Lib.hid h4; have HX6 := Lib.hid h6; have HX7 := Lib.hid h7; have HX8 := Lib.hid h8
         have HI3 := Lib.hid hin3; have HI5 := Lib.hid hin5
         have HC1 := Lib.hid (words_new HP0.out [⟨#[112, 114, 111, 99]⟩] 1 [.string ⟨#[112, 114, 111, 99]⟩] rfl rfl (by decide) (by decide) HX1.out)
         clear h1 h2 h4 h6 h7 h8 hin3 hin5
         (try clear hr)
         go_enter Try.func94, Try.ntmps94
         go_upto_region 1 with (fail)
         rw [HWB.out, HGE.out]
         go_wp2_with (first
          | (go_at_call 58; (with_reducible refine Calls.mono HC1.out ?_); rintro e w1 ⟨rfl, ve1, h2, h3⟩; have HP1 := Lib.hid h2; have HS1 := Lib.hid (HS0.out.trans h3); have HG1 := Lib.hid (mkeep (HT0.out.trans h3) HP0.out HG0.out (by decide) (by decide)); have HT1 := Lib.hid (HT0.out.trans h3); clear bx; have bx := cell_of_row _ _ 0 _ _ _ HG1.out; have HC2 := Lib.hid (name_any l N n HNN.out W0 A c w1 p i1 d1 out1 ve1 _ HP1.out HX2.out); clear h2 h3)
          | (go_at_call 59; (with_reducible refine Calls.mono HC2.out ?_); rintro e w2 ⟨rfl, ve2, h2, h3⟩; have HP2 := Lib.hid h2; have HS2 := Lib.hid (HS1.out.trans h3); have HG2 := Lib.hid (mkeep (HT1.out.trans h3) HP0.out HG0.out (by decide) (by decide)); have HT2 := Lib.hid (HT1.out.trans h3); clear bx; have bx := cell_of_row _ _ 0 _ _ _ HG2.out; have HC3 := Lib.hid ((by have h := is_new HP2.out [⟨#[40]⟩] 1 [.string ⟨#[40]⟩] rfl rfl (by decide) (by decide); rw [HI3.out] at h; exact h)); clear h2 h3)
          | (go_at_call 71; (with_reducible refine Calls.mono HC3.out ?_); rintro e w3 ⟨rfl, hb⟩; have h3 : MStep p ve2 w2 ve2 w3 := PStep.below hb; have HP3 := Lib.hid (HP2.out.moved hb); have HS3 := Lib.hid (HS2.out.trans h3); have HG3 := Lib.hid (mkeep (HT2.out.trans h3) HP0.out HG0.out (by decide) (by decide)); have HT3 := Lib.hid (HT2.out.trans h3); clear bx; have bx := cell_of_row _ _ 0 _ _ _ HG3.out; have HC4 := Lib.hid (node_rule HP3.out 6 6 rfl (.func (.func 118) #[] #[.pointer (some ⟨g, 0, none⟩)]) 118 (.pointer (some ⟨g, 0, none⟩)) (.inr rfl) (fun w => enters_ Try.func118 (by kernel_rfl) rfl #[(.pointer (some ⟨g, 0, none⟩))] w) (T := [.word ⟨#[40]⟩, .rule .r_param, .rule .r_moreParams, .word ⟨#[41]⟩]) (R := .r_params) (by rw [one_of HI3.out]; rfl) (G_proc_1.body HP3.out HG3.out) (Nat.le_succ_of_le HNN.out) HX4.out); clear hb h3)
          | (go_at_call 55; (with_reducible refine Calls.mono HC4.out ?_); rintro e w4 ⟨rfl, ve4, h2, h3⟩; have HP4 := Lib.hid h2; have HS4 := Lib.hid (HS3.out.trans h3); have HG4 := Lib.hid (mkeep (HT3.out.trans h3) HP0.out HG0.out (by decide) (by decide)); have HT4 := Lib.hid (HT3.out.trans h3); clear bx; have bx := cell_of_row _ _ 0 _ _ _ HG4.out; have HC5 := Lib.hid ((by have h := is_new HP4.out [⟨#[58]⟩] 1 [.string ⟨#[58]⟩] rfl rfl (by decide) (by decide); rw [HI5.out] at h; exact h)); clear h2 h3)
          | (go_at_call 71; (with_reducible refine Calls.mono HC5.out ?_); rintro e w5 ⟨rfl, hb⟩; have h3 : MStep p ve4 w4 ve4 w5 := PStep.below hb; have HP5 := Lib.hid (HP4.out.moved hb); have HS5 := Lib.hid (HS4.out.trans h3); have HG5 := Lib.hid (mkeep (HT4.out.trans h3) HP0.out HG0.out (by decide) (by decide)); have HT5 := Lib.hid (HT4.out.trans h3); clear bx; have bx := cell_of_row _ _ 0 _ _ _ HG5.out; have HC6 := Lib.hid (words_new HP5.out [⟨#[58]⟩] 1 [.string ⟨#[58]⟩] rfl rfl (by decide) (by decide) HX6.out); clear hb h3)
          | (go_at_call 58; (with_reducible refine Calls.mono HC6.out ?_); rintro e w6 ⟨rfl, ve6, h2, h3⟩; have HP6 := Lib.hid h2; have HS6 := Lib.hid (HS5.out.trans h3); have HG6 := Lib.hid (mkeep (HT5.out.trans h3) HP0.out HG0.out (by decide) (by decide)); have HT6 := Lib.hid (HT5.out.trans h3); clear bx; have bx := cell_of_row _ _ 0 _ _ _ HG6.out; have HC7 := Lib.hid (G_kind n HNN.out W0 A c w6 p i6 d6 out6 ve6 _ HP6.out HX7.out); clear h2 h3)
          | (go_at_call 115; (with_reducible refine Calls.mono HC7.out ?_); rintro e w7 ⟨rfl, ve7, h2, h3⟩; have HP7 := Lib.hid h2; have HS7 := Lib.hid (HS6.out.trans h3); have HG7 := Lib.hid (mkeep (HT6.out.trans h3) HP0.out HG0.out (by decide) (by decide)); have HT7 := Lib.hid (HT6.out.trans h3); clear bx; have bx := cell_of_row _ _ 0 _ _ _ HG7.out; have HC8 := Lib.hid (words_new HP7.out [⟨#[59]⟩] 1 [.string ⟨#[59]⟩] rfl rfl (by decide) (by decide) HX8.out); clear h2 h3)
          | (go_at_call 58; (with_reducible refine Calls.mono HC8.out ?_); rintro e w8 ⟨rfl, ve8, h3⟩; have HS8 := Lib.hid (HS7.out.trans h3); clear h3))
         exact ⟨rfl, rfl, ve8, HS8.out⟩
        ·skip
         rcases srun_app l n [.rule .r_block] [.word ⟨#[59]⟩] i8 d8 out8 r hr8 with ⟨er, jj, rfl, h9⟩ | ⟨i9, d9, out9, h9, hr9⟩
         ·skip
          have HX1 := Lib.hid h1; have HX2 := Lib.hid h2; have HX4 := Lib.hid h4; have HX6 := Lib.hid h6; have HX7 := Lib.hid h7; have HX8 := Lib.hid h8; have HX9 := Lib.hid h9
          have HI3 := Lib.hid hin3; have HI5 := Lib.hid hin5
          have HC1 := Lib.hid (words_new HP0.out [⟨#[112, 114, 111, 99]⟩] 1 [.string ⟨#[112, 114, 111, 99]⟩] rfl rfl (by decide) (by decide) HX1.out)
          clear h1 h2 h4 h6 h7 h8 h9 hin3 hin5
          (try clear hr)
          go_enter Try.func94, Try.ntmps94
          go_upto_region 1 with (fail)
          rw [HWB.out, HGE.out]
          go_wp2_with (first
           | (go_at_call 58; (with_reducible refine Calls.mono HC1.out ?_); rintro e w1 ⟨rfl, ve1, h2, h3⟩; have HP1 := Lib.hid h2; have HS1 := Lib.hid (HS0.out.trans h3); have HG1 := Lib.hid (mkeep (HT0.out.trans h3) HP0.out HG0.out (by decide) (by decide)); have HT1 := Lib.hid (HT0.out.trans h3); clear bx; have bx := cell_of_row _ _ 0 _ _ _ HG1.out; have HC2 := Lib.hid (name_any l N n HNN.out W0 A c w1 p i1 d1 out1 ve1 _ HP1.out HX2.out); clear h2 h3)
           | (go_at_call 59; (with_reducible refine Calls.mono HC2.out ?_); rintro e w2 ⟨rfl, ve2, h2, h3⟩; have HP2 := Lib.hid h2; have HS2 := Lib.hid (HS1.out.trans h3); have HG2 := Lib.hid (mkeep (HT1.out.trans h3) HP0.out HG0.out (by decide) (by decide)); have HT2 := Lib.hid (HT1.out.trans h3); clear bx; have bx := cell_of_row _ _ 0 _ _ _ HG2.out; have HC3 := Lib.hid ((by have h := is_new HP2.out [⟨#[40]⟩] 1 [.string ⟨#[40]⟩] rfl rfl (by decide) (by decide); rw [HI3.out] at h; exact h)); clear h2 h3)
           | (go_at_call 71; (with_reducible refine Calls.mono HC3.out ?_); rintro e w3 ⟨rfl, hb⟩; have h3 : MStep p ve2 w2 ve2 w3 := PStep.below hb; have HP3 := Lib.hid (HP2.out.moved hb); have HS3 := Lib.hid (HS2.out.trans h3); have HG3 := Lib.hid (mkeep (HT2.out.trans h3) HP0.out HG0.out (by decide) (by decide)); have HT3 := Lib.hid (HT2.out.trans h3); clear bx; have bx := cell_of_row _ _ 0 _ _ _ HG3.out; have HC4 := Lib.hid (node_rule HP3.out 6 6 rfl (.func (.func 118) #[] #[.pointer (some ⟨g, 0, none⟩)]) 118 (.pointer (some ⟨g, 0, none⟩)) (.inr rfl) (fun w => enters_ Try.func118 (by kernel_rfl) rfl #[(.pointer (some ⟨g, 0, none⟩))] w) (T := [.word ⟨#[40]⟩, .rule .r_param, .rule .r_moreParams, .word ⟨#[41]⟩]) (R := .r_params) (by rw [one_of HI3.out]; rfl) (G_proc_1.body HP3.out HG3.out) (Nat.le_succ_of_le HNN.out) HX4.out); clear hb h3)
           | (go_at_call 55; (with_reducible refine Calls.mono HC4.out ?_); rintro e w4 ⟨rfl, ve4, h2, h3⟩; have HP4 := Lib.hid h2; have HS4 := Lib.hid (HS3.out.trans h3); have HG4 := Lib.hid (mkeep (HT3.out.trans h3) HP0.out HG0.out (by decide) (by decide)); have HT4 := Lib.hid (HT3.out.trans h3); clear bx; have bx := cell_of_row _ _ 0 _ _ _ HG4.out; have HC5 := Lib.hid ((by have h := is_new HP4.out [⟨#[58]⟩] 1 [.string ⟨#[58]⟩] rfl rfl (by decide) (by decide); rw [HI5.out] at h; exact h)); clear h2 h3)
           | (go_at_call 71; (with_reducible refine Calls.mono HC5.out ?_); rintro e w5 ⟨rfl, hb⟩; have h3 : MStep p ve4 w4 ve4 w5 := PStep.below hb; have HP5 := Lib.hid (HP4.out.moved hb); have HS5 := Lib.hid (HS4.out.trans h3); have HG5 := Lib.hid (mkeep (HT4.out.trans h3) HP0.out HG0.out (by decide) (by decide)); have HT5 := Lib.hid (HT4.out.trans h3); clear bx; have bx := cell_of_row _ _ 0 _ _ _ HG5.out; have HC6 := Lib.hid (words_new HP5.out [⟨#[58]⟩] 1 [.string ⟨#[58]⟩] rfl rfl (by decide) (by decide) HX6.out); clear hb h3)
           | (go_at_call 58; (with_reducible refine Calls.mono HC6.out ?_); rintro e w6 ⟨rfl, ve6, h2, h3⟩; have HP6 := Lib.hid h2; have HS6 := Lib.hid (HS5.out.trans h3); have HG6 := Lib.hid (mkeep (HT5.out.trans h3) HP0.out HG0.out (by decide) (by decide)); have HT6 := Lib.hid (HT5.out.trans h3); clear bx; have bx := cell_of_row _ _ 0 _ _ _ HG6.out; have HC7 := Lib.hid (G_kind n HNN.out W0 A c w6 p i6 d6 out6 ve6 _ HP6.out HX7.out); clear h2 h3)
           | (go_at_call 115; (with_reducible refine Calls.mono HC7.out ?_); rintro e w7 ⟨rfl, ve7, h2, h3⟩; have HP7 := Lib.hid h2; have HS7 := Lib.hid (HS6.out.trans h3); have HG7 := Lib.hid (mkeep (HT6.out.trans h3) HP0.out HG0.out (by decide) (by decide)); have HT7 := Lib.hid (HT6.out.trans h3); clear bx; have bx := cell_of_row _ _ 0 _ _ _ HG7.out; have HC8 := Lib.hid (words_new HP7.out [⟨#[59]⟩] 1 [.string ⟨#[59]⟩] rfl rfl (by decide) (by decide) HX8.out); clear h2 h3)
           | (go_at_call 58; (with_reducible refine Calls.mono HC8.out ?_); rintro e w8 ⟨rfl, ve8, h2, h3⟩; have HP8 := Lib.hid h2; have HS8 := Lib.hid (HS7.out.trans h3); have HG8 := Lib.hid (mkeep (HT7.out.trans h3) HP0.out HG0.out (by decide) (by decide)); have HT8 := Lib.hid (HT7.out.trans h3); clear bx; have bx := cell_of_row _ _ 0 _ _ _ HG8.out; have HC9 := Lib.hid (G_block n HNN.out W0 A c w8 p i8 d8 out8 ve8 _ HP8.out HX9.out); clear h2 h3)
           | (go_at_call 60; (with_reducible refine Calls.mono HC9.out ?_); rintro e w9 ⟨rfl, ve9, h3⟩; have HS9 := Lib.hid (HS8.out.trans h3); clear h3))
          exact ⟨rfl, rfl, ve9, HS9.out⟩
         ·skip
          have h10 := hr9
          cases r with
          | ok i10 d10 out10 =>
           have HX1 := Lib.hid h1; have HX2 := Lib.hid h2; have HX4 := Lib.hid h4; have HX6 := Lib.hid h6; have HX7 := Lib.hid h7; have HX8 := Lib.hid h8; have HX9 := Lib.hid h9; have HX10 := Lib.hid h10
           have HI3 := Lib.hid hin3; have HI5 := Lib.hid hin5
           have HC1 := Lib.hid (words_new HP0.out [⟨#[112, 114, 111, 99]⟩] 1 [.string ⟨#[112, 114, 111, 99]⟩] rfl rfl (by decide) (by decide) HX1.out)
           clear h1 h2 h4 h6 h7 h8 h9 h10 hin3 hin5
           (try clear hr)
           go_enter Try.func94, Try.ntmps94
           go_upto_region 1 with (fail)
           rw [HWB.out, HGE.out]
           go_wp2_with (first
            | (go_at_call 58; (with_reducible refine Calls.mono HC1.out ?_); rintro e w1 ⟨rfl, ve1, h2, h3⟩; have HP1 := Lib.hid h2; have HS1 := Lib.hid (HS0.out.trans h3); have HG1 := Lib.hid (mkeep (HT0.out.trans h3) HP0.out HG0.out (by decide) (by decide)); have HT1 := Lib.hid (HT0.out.trans h3); clear bx; have bx := cell_of_row _ _ 0 _ _ _ HG1.out; have HC2 := Lib.hid (name_any l N n HNN.out W0 A c w1 p i1 d1 out1 ve1 _ HP1.out HX2.out); clear h2 h3)
            | (go_at_call 59; (with_reducible refine Calls.mono HC2.out ?_); rintro e w2 ⟨rfl, ve2, h2, h3⟩; have HP2 := Lib.hid h2; have HS2 := Lib.hid (HS1.out.trans h3); have HG2 := Lib.hid (mkeep (HT1.out.trans h3) HP0.out HG0.out (by decide) (by decide)); have HT2 := Lib.hid (HT1.out.trans h3); clear bx; have bx := cell_of_row _ _ 0 _ _ _ HG2.out; have HC3 := Lib.hid ((by have h := is_new HP2.out [⟨#[40]⟩] 1 [.string ⟨#[40]⟩] rfl rfl (by decide) (by decide); rw [HI3.out] at h; exact h)); clear h2 h3)
            | (go_at_call 71; (with_reducible refine Calls.mono HC3.out ?_); rintro e w3 ⟨rfl, hb⟩; have h3 : MStep p ve2 w2 ve2 w3 := PStep.below hb; have HP3 := Lib.hid (HP2.out.moved hb); have HS3 := Lib.hid (HS2.out.trans h3); have HG3 := Lib.hid (mkeep (HT2.out.trans h3) HP0.out HG0.out (by decide) (by decide)); have HT3 := Lib.hid (HT2.out.trans h3); clear bx; have bx := cell_of_row _ _ 0 _ _ _ HG3.out; have HC4 := Lib.hid (node_rule HP3.out 6 6 rfl (.func (.func 118) #[] #[.pointer (some ⟨g, 0, none⟩)]) 118 (.pointer (some ⟨g, 0, none⟩)) (.inr rfl) (fun w => enters_ Try.func118 (by kernel_rfl) rfl #[(.pointer (some ⟨g, 0, none⟩))] w) (T := [.word ⟨#[40]⟩, .rule .r_param, .rule .r_moreParams, .word ⟨#[41]⟩]) (R := .r_params) (by rw [one_of HI3.out]; rfl) (G_proc_1.body HP3.out HG3.out) (Nat.le_succ_of_le HNN.out) HX4.out); clear hb h3)
            | (go_at_call 55; (with_reducible refine Calls.mono HC4.out ?_); rintro e w4 ⟨rfl, ve4, h2, h3⟩; have HP4 := Lib.hid h2; have HS4 := Lib.hid (HS3.out.trans h3); have HG4 := Lib.hid (mkeep (HT3.out.trans h3) HP0.out HG0.out (by decide) (by decide)); have HT4 := Lib.hid (HT3.out.trans h3); clear bx; have bx := cell_of_row _ _ 0 _ _ _ HG4.out; have HC5 := Lib.hid ((by have h := is_new HP4.out [⟨#[58]⟩] 1 [.string ⟨#[58]⟩] rfl rfl (by decide) (by decide); rw [HI5.out] at h; exact h)); clear h2 h3)
            | (go_at_call 71; (with_reducible refine Calls.mono HC5.out ?_); rintro e w5 ⟨rfl, hb⟩; have h3 : MStep p ve4 w4 ve4 w5 := PStep.below hb; have HP5 := Lib.hid (HP4.out.moved hb); have HS5 := Lib.hid (HS4.out.trans h3); have HG5 := Lib.hid (mkeep (HT4.out.trans h3) HP0.out HG0.out (by decide) (by decide)); have HT5 := Lib.hid (HT4.out.trans h3); clear bx; have bx := cell_of_row _ _ 0 _ _ _ HG5.out; have HC6 := Lib.hid (words_new HP5.out [⟨#[58]⟩] 1 [.string ⟨#[58]⟩] rfl rfl (by decide) (by decide) HX6.out); clear hb h3)
            | (go_at_call 58; (with_reducible refine Calls.mono HC6.out ?_); rintro e w6 ⟨rfl, ve6, h2, h3⟩; have HP6 := Lib.hid h2; have HS6 := Lib.hid (HS5.out.trans h3); have HG6 := Lib.hid (mkeep (HT5.out.trans h3) HP0.out HG0.out (by decide) (by decide)); have HT6 := Lib.hid (HT5.out.trans h3); clear bx; have bx := cell_of_row _ _ 0 _ _ _ HG6.out; have HC7 := Lib.hid (G_kind n HNN.out W0 A c w6 p i6 d6 out6 ve6 _ HP6.out HX7.out); clear h2 h3)
            | (go_at_call 115; (with_reducible refine Calls.mono HC7.out ?_); rintro e w7 ⟨rfl, ve7, h2, h3⟩; have HP7 := Lib.hid h2; have HS7 := Lib.hid (HS6.out.trans h3); have HG7 := Lib.hid (mkeep (HT6.out.trans h3) HP0.out HG0.out (by decide) (by decide)); have HT7 := Lib.hid (HT6.out.trans h3); clear bx; have bx := cell_of_row _ _ 0 _ _ _ HG7.out; have HC8 := Lib.hid (words_new HP7.out [⟨#[59]⟩] 1 [.string ⟨#[59]⟩] rfl rfl (by decide) (by decide) HX8.out); clear h2 h3)
            | (go_at_call 58; (with_reducible refine Calls.mono HC8.out ?_); rintro e w8 ⟨rfl, ve8, h2, h3⟩; have HP8 := Lib.hid h2; have HS8 := Lib.hid (HS7.out.trans h3); have HG8 := Lib.hid (mkeep (HT7.out.trans h3) HP0.out HG0.out (by decide) (by decide)); have HT8 := Lib.hid (HT7.out.trans h3); clear bx; have bx := cell_of_row _ _ 0 _ _ _ HG8.out; have HC9 := Lib.hid (G_block n HNN.out W0 A c w8 p i8 d8 out8 ve8 _ HP8.out HX9.out); clear h2 h3)
            | (go_at_call 60; (with_reducible refine Calls.mono HC9.out ?_); rintro e w9 ⟨rfl, ve9, h2, h3⟩; have HP9 := Lib.hid h2; have HS9 := Lib.hid (HS8.out.trans h3); have HG9 := Lib.hid (mkeep (HT8.out.trans h3) HP0.out HG0.out (by decide) (by decide)); have HT9 := Lib.hid (HT8.out.trans h3); clear bx; have bx := cell_of_row _ _ 0 _ _ _ HG9.out; have HC10 := Lib.hid (words_new HP9.out [⟨#[59]⟩] 1 [.string ⟨#[59]⟩] rfl rfl (by decide) (by decide) HX10.out); clear h2 h3)
            | (go_at_call 58; (with_reducible refine Calls.mono HC10.out ?_); rintro e w10 ⟨rfl, ve10, h2, h3⟩; have HP10 := Lib.hid h2; have HS10 := Lib.hid (HS9.out.trans h3); have HG10 := Lib.hid (mkeep (HT9.out.trans h3) HP0.out HG0.out (by decide) (by decide)); have HT10 := Lib.hid (HT9.out.trans h3); clear bx; have bx := cell_of_row _ _ 0 _ _ _ HG10.out; clear h2 h3))
           go_end0
           exact ⟨rfl, ve10, HP10.out, HS10.out⟩
          | err er jj =>
           have HX1 := Lib.hid h1; have HX2 := Lib.hid h2; have HX4 := Lib.hid h4; have HX6 := Lib.hid h6; have HX7 := Lib.hid h7; have HX8 := Lib.hid h8; have HX9 := Lib.hid h9; have HX10 := Lib.hid h10
           have HI3 := Lib.hid hin3; have HI5 := Lib.hid hin5
           have HC1 := Lib.hid (words_new HP0.out [⟨#[112, 114, 111, 99]⟩] 1 [.string ⟨#[112, 114, 111, 99]⟩] rfl rfl (by decide) (by decide) HX1.out)
           clear h1 h2 h4 h6 h7 h8 h9 h10 hin3 hin5
           (try clear hr)
           go_enter Try.func94, Try.ntmps94
           go_upto_region 1 with (fail)
           rw [HWB.out, HGE.out]
           go_wp2_with (first
            | (go_at_call 58; (with_reducible refine Calls.mono HC1.out ?_); rintro e w1 ⟨rfl, ve1, h2, h3⟩; have HP1 := Lib.hid h2; have HS1 := Lib.hid (HS0.out.trans h3); have HG1 := Lib.hid (mkeep (HT0.out.trans h3) HP0.out HG0.out (by decide) (by decide)); have HT1 := Lib.hid (HT0.out.trans h3); clear bx; have bx := cell_of_row _ _ 0 _ _ _ HG1.out; have HC2 := Lib.hid (name_any l N n HNN.out W0 A c w1 p i1 d1 out1 ve1 _ HP1.out HX2.out); clear h2 h3)
            | (go_at_call 59; (with_reducible refine Calls.mono HC2.out ?_); rintro e w2 ⟨rfl, ve2, h2, h3⟩; have HP2 := Lib.hid h2; have HS2 := Lib.hid (HS1.out.trans h3); have HG2 := Lib.hid (mkeep (HT1.out.trans h3) HP0.out HG0.out (by decide) (by decide)); have HT2 := Lib.hid (HT1.out.trans h3); clear bx; have bx := cell_of_row _ _ 0 _ _ _ HG2.out; have HC3 := Lib.hid ((by have h := is_new HP2.out [⟨#[40]⟩] 1 [.string ⟨#[40]⟩] rfl rfl (by decide) (by decide); rw [HI3.out] at h; exact h)); clear h2 h3)
            | (go_at_call 71; (with_reducible refine Calls.mono HC3.out ?_); rintro e w3 ⟨rfl, hb⟩; have h3 : MStep p ve2 w2 ve2 w3 := PStep.below hb; have HP3 := Lib.hid (HP2.out.moved hb); have HS3 := Lib.hid (HS2.out.trans h3); have HG3 := Lib.hid (mkeep (HT2.out.trans h3) HP0.out HG0.out (by decide) (by decide)); have HT3 := Lib.hid (HT2.out.trans h3); clear bx; have bx := cell_of_row _ _ 0 _ _ _ HG3.out; have HC4 := Lib.hid (node_rule HP3.out 6 6 rfl (.func (.func 118) #[] #[.pointer (some ⟨g, 0, none⟩)]) 118 (.pointer (some ⟨g, 0, none⟩)) (.inr rfl) (fun w => enters_ Try.func118 (by kernel_rfl) rfl #[(.pointer (some ⟨g, 0, none⟩))] w) (T := [.word ⟨#[40]⟩, .rule .r_param, .rule .r_moreParams, .word ⟨#[41]⟩]) (R := .r_params) (by rw [one_of HI3.out]; rfl) (G_proc_1.body HP3.out HG3.out) (Nat.le_succ_of_le HNN.out) HX4.out); clear hb h3)
            | (go_at_call 55; (with_reducible refine Calls.mono HC4.out ?_); rintro e w4 ⟨rfl, ve4, h2, h3⟩; have HP4 := Lib.hid h2; have HS4 := Lib.hid (HS3.out.trans h3); have HG4 := Lib.hid (mkeep (HT3.out.trans h3) HP0.out HG0.out (by decide) (by decide)); have HT4 := Lib.hid (HT3.out.trans h3); clear bx; have bx := cell_of_row _ _ 0 _ _ _ HG4.out; have HC5 := Lib.hid ((by have h := is_new HP4.out [⟨#[58]⟩] 1 [.string ⟨#[58]⟩] rfl rfl (by decide) (by decide); rw [HI5.out] at h; exact h)); clear h2 h3)
            | (go_at_call 71; (with_reducible refine Calls.mono HC5.out ?_); rintro e w5 ⟨rfl, hb⟩; have h3 : MStep p ve4 w4 ve4 w5 := PStep.below hb; have HP5 := Lib.hid (HP4.out.moved hb); have HS5 := Lib.hid (HS4.out.trans h3); have HG5 := Lib.hid (mkeep (HT4.out.trans h3) HP0.out HG0.out (by decide) (by decide)); have HT5 := Lib.hid (HT4.out.trans h3); clear bx; have bx := cell_of_row _ _ 0 _ _ _ HG5.out; have HC6 := Lib.hid (words_new HP5.out [⟨#[58]⟩] 1 [.string ⟨#[58]⟩] rfl rfl (by decide) (by decide) HX6.out); clear hb h3)
            | (go_at_call 58; (with_reducible refine Calls.mono HC6.out ?_); rintro e w6 ⟨rfl, ve6, h2, h3⟩; have HP6 := Lib.hid h2; have HS6 := Lib.hid (HS5.out.trans h3); have HG6 := Lib.hid (mkeep (HT5.out.trans h3) HP0.out HG0.out (by decide) (by decide)); have HT6 := Lib.hid (HT5.out.trans h3); clear bx; have bx := cell_of_row _ _ 0 _ _ _ HG6.out; have HC7 := Lib.hid (G_kind n HNN.out W0 A c w6 p i6 d6 out6 ve6 _ HP6.out HX7.out); clear h2 h3)
            | (go_at_call 115; (with_reducible refine Calls.mono HC7.out ?_); rintro e w7 ⟨rfl, ve7, h2, h3⟩; have HP7 := Lib.hid h2; have HS7 := Lib.hid (HS6.out.trans h3); have HG7 := Lib.hid (mkeep (HT6.out.trans h3) HP0.out HG0.out (by decide) (by decide)); have HT7 := Lib.hid (HT6.out.trans h3); clear bx; have bx := cell_of_row _ _ 0 _ _ _ HG7.out; have HC8 := Lib.hid (words_new HP7.out [⟨#[59]⟩] 1 [.string ⟨#[59]⟩] rfl rfl (by decide) (by decide) HX8.out); clear h2 h3)
            | (go_at_call 58; (with_reducible refine Calls.mono HC8.out ?_); rintro e w8 ⟨rfl, ve8, h2, h3⟩; have HP8 := Lib.hid h2; have HS8 := Lib.hid (HS7.out.trans h3); have HG8 := Lib.hid (mkeep (HT7.out.trans h3) HP0.out HG0.out (by decide) (by decide)); have HT8 := Lib.hid (HT7.out.trans h3); clear bx; have bx := cell_of_row _ _ 0 _ _ _ HG8.out; have HC9 := Lib.hid (G_block n HNN.out W0 A c w8 p i8 d8 out8 ve8 _ HP8.out HX9.out); clear h2 h3)
            | (go_at_call 60; (with_reducible refine Calls.mono HC9.out ?_); rintro e w9 ⟨rfl, ve9, h2, h3⟩; have HP9 := Lib.hid h2; have HS9 := Lib.hid (HS8.out.trans h3); have HG9 := Lib.hid (mkeep (HT8.out.trans h3) HP0.out HG0.out (by decide) (by decide)); have HT9 := Lib.hid (HT8.out.trans h3); clear bx; have bx := cell_of_row _ _ 0 _ _ _ HG9.out; have HC10 := Lib.hid (words_new HP9.out [⟨#[59]⟩] 1 [.string ⟨#[59]⟩] rfl rfl (by decide) (by decide) HX10.out); clear h2 h3)
            | (go_at_call 58; (with_reducible refine Calls.mono HC10.out ?_); rintro e w10 ⟨rfl, ve10, h3⟩; have HS10 := Lib.hid (HS9.out.trans h3); clear h3))
           exact ⟨rfl, rfl, ve10, HS10.out⟩
     ·have hin5 : inL (cAt l i4) [⟨#[58]⟩] = false := by simpa using hin5'
      clear hin5'
      have hr5 : srun l n ⟨([.word ⟨#[59]⟩] ++ ([.rule .r_block] ++ [.word ⟨#[59]⟩])), i4, d4, out4⟩ = some r := if_no (no_typed hin5) hr4
      rcases srun_app l n [.word ⟨#[59]⟩] ([.rule .r_block] ++ [.word ⟨#[59]⟩]) i4 d4 out4 r hr5 with ⟨er, jj, rfl, h6⟩ | ⟨i6, d6, out6, h6, hr6⟩
      ·skip
       have HX1 := Lib.hid h1; have HX2 := Lib.hid h2; have HX4 := Lib.hid h4; have HX6 := Lib.hid h6
       have HI3 := Lib.hid hin3; have HI5 := Lib.hid hin5
       have HC1 := Lib.hid (words_new HP0.out [⟨#[112, 114, 111, 99]⟩] 1 [.string ⟨#[112, 114, 111, 99]⟩] rfl rfl (by decide) (by decide) HX1.out)
       clear h1 h2 h4 h6 hin3 hin5
       (try clear hr)
       go_enter Try.func94, Try.ntmps94
       go_upto_region 1 with (fail)
       rw [HWB.out, HGE.out]
       go_wp2_with (first
        | (go_at_call 58; (with_reducible refine Calls.mono HC1.out ?_); rintro e w1 ⟨rfl, ve1, h2, h3⟩; have HP1 := Lib.hid h2; have HS1 := Lib.hid (HS0.out.trans h3); have HG1 := Lib.hid (mkeep (HT0.out.trans h3) HP0.out HG0.out (by decide) (by decide)); have HT1 := Lib.hid (HT0.out.trans h3); clear bx; have bx := cell_of_row _ _ 0 _ _ _ HG1.out; have HC2 := Lib.hid (name_any l N n HNN.out W0 A c w1 p i1 d1 out1 ve1 _ HP1.out HX2.out); clear h2 h3)
        | (go_at_call 59; (with_reducible refine Calls.mono HC2.out ?_); rintro e w2 ⟨rfl, ve2, h2, h3⟩; have HP2 := Lib.hid h2; have HS2 := Lib.hid (HS1.out.trans h3); have HG2 := Lib.hid (mkeep (HT1.out.trans h3) HP0.out HG0.out (by decide) (by decide)); have HT2 := Lib.hid (HT1.out.trans h3); clear bx; have bx := cell_of_row _ _ 0 _ _ _ HG2.out; have HC3 := Lib.hid ((by have h := is_new HP2.out [⟨#[40]⟩] 1 [.string ⟨#[40]⟩] rfl rfl (by decide) (by decide); rw [HI3.out] at h; exact h)); clear h2 h3)
        | (go_at_call 71; (with_reducible refine Calls.mono HC3.out ?_); rintro e w3 ⟨rfl, hb⟩; have h3 : MStep p ve2 w2 ve2 w3 := PStep.below hb; have HP3 := Lib.hid (HP2.out.moved hb); have HS3 := Lib.hid (HS2.out.trans h3); have HG3 := Lib.hid (mkeep (HT2.out.trans h3) HP0.out HG0.out (by decide) (by decide)); have HT3 := Lib.hid (HT2.out.trans h3); clear bx; have bx := cell_of_row _ _ 0 _ _ _ HG3.out; have HC4 := Lib.hid (node_rule HP3.out 6 6 rfl (.func (.func 118) #[] #[.pointer (some ⟨g, 0, none⟩)]) 118 (.pointer (some ⟨g, 0, none⟩)) (.inr rfl) (fun w => enters_ Try.func118 (by kernel_rfl) rfl #[(.pointer (some ⟨g, 0, none⟩))] w) (T := [.word ⟨#[40]⟩, .rule .r_param, .rule .r_moreParams, .word ⟨#[41]⟩]) (R := .r_params) (by rw [one_of HI3.out]; rfl) (G_proc_1.body HP3.out HG3.out) (Nat.le_succ_of_le HNN.out) HX4.out); clear hb h3)
        | (go_at_call 55; (with_reducible refine Calls.mono HC4.out ?_); rintro e w4 ⟨rfl, ve4, h2, h3⟩; have HP4 := Lib.hid h2; have HS4 := Lib.hid (HS3.out.trans h3); have HG4 := Lib.hid (mkeep (HT3.out.trans h3) HP0.out HG0.out (by decide) (by decide)); have HT4 := Lib.hid (HT3.out.trans h3); clear bx; have bx := cell_of_row _ _ 0 _ _ _ HG4.out; have HC5 := Lib.hid ((by have h := is_new HP4.out [⟨#[58]⟩] 1 [.string ⟨#[58]⟩] rfl rfl (by decide) (by decide); rw [HI5.out] at h; exact h)); clear h2 h3)
        | (go_at_call 71; (with_reducible refine Calls.mono HC5.out ?_); rintro e w5 ⟨rfl, hb⟩; have h3 : MStep p ve4 w4 ve4 w5 := PStep.below hb; have HP5 := Lib.hid (HP4.out.moved hb); have HS5 := Lib.hid (HS4.out.trans h3); have HG5 := Lib.hid (mkeep (HT4.out.trans h3) HP0.out HG0.out (by decide) (by decide)); have HT5 := Lib.hid (HT4.out.trans h3); clear bx; have bx := cell_of_row _ _ 0 _ _ _ HG5.out; have HC6 := Lib.hid (words_new HP5.out [⟨#[59]⟩] 1 [.string ⟨#[59]⟩] rfl rfl (by decide) (by decide) HX6.out); clear hb h3)
        | (go_at_call 58; (with_reducible refine Calls.mono HC6.out ?_); rintro e w6 ⟨rfl, ve6, h3⟩; have HS6 := Lib.hid (HS5.out.trans h3); clear h3))
       exact ⟨rfl, rfl, ve6, HS6.out⟩
      ·skip
       rcases srun_app l n [.rule .r_block] [.word ⟨#[59]⟩] i6 d6 out6 r hr6 with ⟨er, jj, rfl, h7⟩ | ⟨i7, d7, out7, h7, hr7⟩
       ·skip
        have HX1 := Lib.hid h1; have HX2 := Lib.hid h2; have HX4 := Lib.hid h4; have HX6 := Lib.hid h6; have HX7 := Lib.hid h7
        have HI3 := Lib.hid hin3; have HI5 := Lib.hid hin5
        have HC1 := Lib.hid (words_new HP0.out [⟨#[112, 114, 111, 99]⟩] 1 [.string ⟨#[112, 114, 111, 99]⟩] rfl rfl (by decide) (by decide) HX1.out)
        clear h1 h2 h4 h6 h7 hin3 hin5
        (try clear hr)
        go_enter Try.func94, Try.ntmps94
        go_upto_region 1 with (fail)
        rw [HWB.out, HGE.out]
        go_wp2_with (first
         | (go_at_call 58; (with_reducible refine Calls.mono HC1.out ?_); rintro e w1 ⟨rfl, ve1, h2, h3⟩; have HP1 := Lib.hid h2; have HS1 := Lib.hid (HS0.out.trans h3); have HG1 := Lib.hid (mkeep (HT0.out.trans h3) HP0.out HG0.out (by decide) (by decide)); have HT1 := Lib.hid (HT0.out.trans h3); clear bx; have bx := cell_of_row _ _ 0 _ _ _ HG1.out; have HC2 := Lib.hid (name_any l N n HNN.out W0 A c w1 p i1 d1 out1 ve1 _ HP1.out HX2.out); clear h2 h3)
         | (go_at_call 59; (with_reducible refine Calls.mono HC2.out ?_); rintro e w2 ⟨rfl, ve2, h2, h3⟩; have HP2 := Lib.hid h2; have HS2 := Lib.hid (HS1.out.trans h3); have HG2 := Lib.hid (mkeep (HT1.out.trans h3) HP0.out HG0.out (by decide) (by decide)); have HT2 := Lib.hid (HT1.out.trans h3); clear bx; have bx := cell_of_row _ _ 0 _ _ _ HG2.out; have HC3 := Lib.hid ((by have h := is_new HP2.out [⟨#[40]⟩] 1 [.string ⟨#[40]⟩] rfl rfl (by decide) (by decide); rw [HI3.out] at h; exact h)); clear h2 h3)
         | (go_at_call 71; (with_reducible refine Calls.mono HC3.out ?_); rintro e w3 ⟨rfl, hb⟩; have h3 : MStep p ve2 w2 ve2 w3 := PStep.below hb; have HP3 := Lib.hid (HP2.out.moved hb); have HS3 := Lib.hid (HS2.out.trans h3); have HG3 := Lib.hid (mkeep (HT2.out.trans h3) HP0.out HG0.out (by decide) (by decide)); have HT3 := Lib.hid (HT2.out.trans h3); clear bx; have bx := cell_of_row _ _ 0 _ _ _ HG3.out; have HC4 := Lib.hid (node_rule HP3.out 6 6 rfl (.func (.func 118) #[] #[.pointer (some ⟨g, 0, none⟩)]) 118 (.pointer (some ⟨g, 0, none⟩)) (.inr rfl) (fun w => enters_ Try.func118 (by kernel_rfl) rfl #[(.pointer (some ⟨g, 0, none⟩))] w) (T := [.word ⟨#[40]⟩, .rule .r_param, .rule .r_moreParams, .word ⟨#[41]⟩]) (R := .r_params) (by rw [one_of HI3.out]; rfl) (G_proc_1.body HP3.out HG3.out) (Nat.le_succ_of_le HNN.out) HX4.out); clear hb h3)
         | (go_at_call 55; (with_reducible refine Calls.mono HC4.out ?_); rintro e w4 ⟨rfl, ve4, h2, h3⟩; have HP4 := Lib.hid h2; have HS4 := Lib.hid (HS3.out.trans h3); have HG4 := Lib.hid (mkeep (HT3.out.trans h3) HP0.out HG0.out (by decide) (by decide)); have HT4 := Lib.hid (HT3.out.trans h3); clear bx; have bx := cell_of_row _ _ 0 _ _ _ HG4.out; have HC5 := Lib.hid ((by have h := is_new HP4.out [⟨#[58]⟩] 1 [.string ⟨#[58]⟩] rfl rfl (by decide) (by decide); rw [HI5.out] at h; exact h)); clear h2 h3)
         | (go_at_call 71; (with_reducible refine Calls.mono HC5.out ?_); rintro e w5 ⟨rfl, hb⟩; have h3 : MStep p ve4 w4 ve4 w5 := PStep.below hb; have HP5 := Lib.hid (HP4.out.moved hb); have HS5 := Lib.hid (HS4.out.trans h3); have HG5 := Lib.hid (mkeep (HT4.out.trans h3) HP0.out HG0.out (by decide) (by decide)); have HT5 := Lib.hid (HT4.out.trans h3); clear bx; have bx := cell_of_row _ _ 0 _ _ _ HG5.out; have HC6 := Lib.hid (words_new HP5.out [⟨#[59]⟩] 1 [.string ⟨#[59]⟩] rfl rfl (by decide) (by decide) HX6.out); clear hb h3)
         | (go_at_call 58; (with_reducible refine Calls.mono HC6.out ?_); rintro e w6 ⟨rfl, ve6, h2, h3⟩; have HP6 := Lib.hid h2; have HS6 := Lib.hid (HS5.out.trans h3); have HG6 := Lib.hid (mkeep (HT5.out.trans h3) HP0.out HG0.out (by decide) (by decide)); have HT6 := Lib.hid (HT5.out.trans h3); clear bx; have bx := cell_of_row _ _ 0 _ _ _ HG6.out; have HC7 := Lib.hid (G_block n HNN.out W0 A c w6 p i6 d6 out6 ve6 _ HP6.out HX7.out); clear h2 h3)
         | (go_at_call 60; (with_reducible refine Calls.mono HC7.out ?_); rintro e w7 ⟨rfl, ve7, h3⟩; have HS7 := Lib.hid (HS6.out.trans h3); clear h3))
        exact ⟨rfl, rfl, ve7, HS7.out⟩
       ·skip
        have h8 := hr7
        cases r with
        | ok i8 d8 out8 =>
         have HX1 := Lib.hid h1; have HX2 := Lib.hid h2; have HX4 := Lib.hid h4; have HX6 := Lib.hid h6; have HX7 := Lib.hid h7; have HX8 := Lib.hid h8
         have HI3 := Lib.hid hin3; have HI5 := Lib.hid hin5
         have HC1 := Lib.hid (words_new HP0.out [⟨#[112, 114, 111, 99]⟩] 1 [.string ⟨#[112, 114, 111, 99]⟩] rfl rfl (by decide) (by decide) HX1.out)
         clear h1 h2 h4 h6 h7 h8 hin3 hin5
         (try clear hr)
         go_enter Try.func94, Try.ntmps94
         go_upto_region 1 with (fail)
         rw [HWB.out, HGE.out]
         go_wp2_with (first
          | (go_at_call 58; (with_reducible refine Calls.mono HC1.out ?_); rintro e w1 ⟨rfl, ve1, h2, h3⟩; have HP1 := Lib.hid h2; have HS1 := Lib.hid (HS0.out.trans h3); have HG1 := Lib.hid (mkeep (HT0.out.trans h3) HP0.out HG0.out (by decide) (by decide)); have HT1 := Lib.hid (HT0.out.trans h3); clear bx; have bx := cell_of_row _ _ 0 _ _ _ HG1.out; have HC2 := Lib.hid (name_any l N n HNN.out W0 A c w1 p i1 d1 out1 ve1 _ HP1.out HX2.out); clear h2 h3)
          | (go_at_call 59; (with_reducible refine Calls.mono HC2.out ?_); rintro e w2 ⟨rfl, ve2, h2, h3⟩; have HP2 := Lib.hid h2; have HS2 := Lib.hid (HS1.out.trans h3); have HG2 := Lib.hid (mkeep (HT1.out.trans h3) HP0.out HG0.out (by decide) (by decide)); have HT2 := Lib.hid (HT1.out.trans h3); clear bx; have bx := cell_of_row _ _ 0 _ _ _ HG2.out; have HC3 := Lib.hid ((by have h := is_new HP2.out [⟨#[40]⟩] 1 [.string ⟨#[40]⟩] rfl rfl (by decide) (by decide); rw [HI3.out] at h; exact h)); clear h2 h3)
          | (go_at_call 71; (with_reducible refine Calls.mono HC3.out ?_); rintro e w3 ⟨rfl, hb⟩; have h3 : MStep p ve2 w2 ve2 w3 := PStep.below hb; have HP3 := Lib.hid (HP2.out.moved hb); have HS3 := Lib.hid (HS2.out.trans h3); have HG3 := Lib.hid (mkeep (HT2.out.trans h3) HP0.out HG0.out (by decide) (by decide)); have HT3 := Lib.hid (HT2.out.trans h3); clear bx; have bx := cell_of_row _ _ 0 _ _ _ HG3.out; have HC4 := Lib.hid (node_rule HP3.out 6 6 rfl (.func (.func 118) #[] #[.pointer (some ⟨g, 0, none⟩)]) 118 (.pointer (some ⟨g, 0, none⟩)) (.inr rfl) (fun w => enters_ Try.func118 (by kernel_rfl) rfl #[(.pointer (some ⟨g, 0, none⟩))] w) (T := [.word ⟨#[40]⟩, .rule .r_param, .rule .r_moreParams, .word ⟨#[41]⟩]) (R := .r_params) (by rw [one_of HI3.out]; rfl) (G_proc_1.body HP3.out HG3.out) (Nat.le_succ_of_le HNN.out) HX4.out); clear hb h3)
          | (go_at_call 55; (with_reducible refine Calls.mono HC4.out ?_); rintro e w4 ⟨rfl, ve4, h2, h3⟩; have HP4 := Lib.hid h2; have HS4 := Lib.hid (HS3.out.trans h3); have HG4 := Lib.hid (mkeep (HT3.out.trans h3) HP0.out HG0.out (by decide) (by decide)); have HT4 := Lib.hid (HT3.out.trans h3); clear bx; have bx := cell_of_row _ _ 0 _ _ _ HG4.out; have HC5 := Lib.hid ((by have h := is_new HP4.out [⟨#[58]⟩] 1 [.string ⟨#[58]⟩] rfl rfl (by decide) (by decide); rw [HI5.out] at h; exact h)); clear h2 h3)
          | (go_at_call 71; (with_reducible refine Calls.mono HC5.out ?_); rintro e w5 ⟨rfl, hb⟩; have h3 : MStep p ve4 w4 ve4 w5 := PStep.below hb; have HP5 := Lib.hid (HP4.out.moved hb); have HS5 := Lib.hid (HS4.out.trans h3); have HG5 := Lib.hid (mkeep (HT4.out.trans h3) HP0.out HG0.out (by decide) (by decide)); have HT5 := Lib.hid (HT4.out.trans h3); clear bx; have bx := cell_of_row _ _ 0 _ _ _ HG5.out; have HC6 := Lib.hid (words_new HP5.out [⟨#[59]⟩] 1 [.string ⟨#[59]⟩] rfl rfl (by decide) (by decide) HX6.out); clear hb h3)
          | (go_at_call 58; (with_reducible refine Calls.mono HC6.out ?_); rintro e w6 ⟨rfl, ve6, h2, h3⟩; have HP6 := Lib.hid h2; have HS6 := Lib.hid (HS5.out.trans h3); have HG6 := Lib.hid (mkeep (HT5.out.trans h3) HP0.out HG0.out (by decide) (by decide)); have HT6 := Lib.hid (HT5.out.trans h3); clear bx; have bx := cell_of_row _ _ 0 _ _ _ HG6.out; have HC7 := Lib.hid (G_block n HNN.out W0 A c w6 p i6 d6 out6 ve6 _ HP6.out HX7.out); clear h2 h3)
          | (go_at_call 60; (with_reducible refine Calls.mono HC7.out ?_); rintro e w7 ⟨rfl, ve7, h2, h3⟩; have HP7 := Lib.hid h2; have HS7 := Lib.hid (HS6.out.trans h3); have HG7 := Lib.hid (mkeep (HT6.out.trans h3) HP0.out HG0.out (by decide) (by decide)); have HT7 := Lib.hid (HT6.out.trans h3); clear bx; have bx := cell_of_row _ _ 0 _ _ _ HG7.out; have HC8 := Lib.hid (words_new HP7.out [⟨#[59]⟩] 1 [.string ⟨#[59]⟩] rfl rfl (by decide) (by decide) HX8.out); clear h2 h3)
          | (go_at_call 58; (with_reducible refine Calls.mono HC8.out ?_); rintro e w8 ⟨rfl, ve8, h2, h3⟩; have HP8 := Lib.hid h2; have HS8 := Lib.hid (HS7.out.trans h3); have HG8 := Lib.hid (mkeep (HT7.out.trans h3) HP0.out HG0.out (by decide) (by decide)); have HT8 := Lib.hid (HT7.out.trans h3); clear bx; have bx := cell_of_row _ _ 0 _ _ _ HG8.out; clear h2 h3))
         go_end0
         exact ⟨rfl, ve8, HP8.out, HS8.out⟩
        | err er jj =>
         have HX1 := Lib.hid h1; have HX2 := Lib.hid h2; have HX4 := Lib.hid h4; have HX6 := Lib.hid h6; have HX7 := Lib.hid h7; have HX8 := Lib.hid h8
         have HI3 := Lib.hid hin3; have HI5 := Lib.hid hin5
         have HC1 := Lib.hid (words_new HP0.out [⟨#[112, 114, 111, 99]⟩] 1 [.string ⟨#[112, 114, 111, 99]⟩] rfl rfl (by decide) (by decide) HX1.out)
         clear h1 h2 h4 h6 h7 h8 hin3 hin5
         (try clear hr)
         go_enter Try.func94, Try.ntmps94
         go_upto_region 1 with (fail)
         rw [HWB.out, HGE.out]
         go_wp2_with (first
          | (go_at_call 58; (with_reducible refine Calls.mono HC1.out ?_); rintro e w1 ⟨rfl, ve1, h2, h3⟩; have HP1 := Lib.hid h2; have HS1 := Lib.hid (HS0.out.trans h3); have HG1 := Lib.hid (mkeep (HT0.out.trans h3) HP0.out HG0.out (by decide) (by decide)); have HT1 := Lib.hid (HT0.out.trans h3); clear bx; have bx := cell_of_row _ _ 0 _ _ _ HG1.out; have HC2 := Lib.hid (name_any l N n HNN.out W0 A c w1 p i1 d1 out1 ve1 _ HP1.out HX2.out); clear h2 h3)
          | (go_at_call 59; (with_reducible refine Calls.mono HC2.out ?_); rintro e w2 ⟨rfl, ve2, h2, h3⟩; have HP2 := Lib.hid h2; have HS2 := Lib.hid (HS1.out.trans h3); have HG2 := Lib.hid (mkeep (HT1.out.trans h3) HP0.out HG0.out (by decide) (by decide)); have HT2 := Lib.hid (HT1.out.trans h3); clear bx; have bx := cell_of_row _ _ 0 _ _ _ HG2.out; have HC3 := Lib.hid ((by have h := is_new HP2.out [⟨#[40]⟩] 1 [.string ⟨#[40]⟩] rfl rfl (by decide) (by decide); rw [HI3.out] at h; exact h)); clear h2 h3)
          | (go_at_call 71; (with_reducible refine Calls.mono HC3.out ?_); rintro e w3 ⟨rfl, hb⟩; have h3 : MStep p ve2 w2 ve2 w3 := PStep.below hb; have HP3 := Lib.hid (HP2.out.moved hb); have HS3 := Lib.hid (HS2.out.trans h3); have HG3 := Lib.hid (mkeep (HT2.out.trans h3) HP0.out HG0.out (by decide) (by decide)); have HT3 := Lib.hid (HT2.out.trans h3); clear bx; have bx := cell_of_row _ _ 0 _ _ _ HG3.out; have HC4 := Lib.hid (node_rule HP3.out 6 6 rfl (.func (.func 118) #[] #[.pointer (some ⟨g, 0, none⟩)]) 118 (.pointer (some ⟨g, 0, none⟩)) (.inr rfl) (fun w => enters_ Try.func118 (by kernel_rfl) rfl #[(.pointer (some ⟨g, 0, none⟩))] w) (T := [.word ⟨#[40]⟩, .rule .r_param, .rule .r_moreParams, .word ⟨#[41]⟩]) (R := .r_params) (by rw [one_of HI3.out]; rfl) (G_proc_1.body HP3.out HG3.out) (Nat.le_succ_of_le HNN.out) HX4.out); clear hb h3)
          | (go_at_call 55; (with_reducible refine Calls.mono HC4.out ?_); rintro e w4 ⟨rfl, ve4, h2, h3⟩; have HP4 := Lib.hid h2; have HS4 := Lib.hid (HS3.out.trans h3); have HG4 := Lib.hid (mkeep (HT3.out.trans h3) HP0.out HG0.out (by decide) (by decide)); have HT4 := Lib.hid (HT3.out.trans h3); clear bx; have bx := cell_of_row _ _ 0 _ _ _ HG4.out; have HC5 := Lib.hid ((by have h := is_new HP4.out [⟨#[58]⟩] 1 [.string ⟨#[58]⟩] rfl rfl (by decide) (by decide); rw [HI5.out] at h; exact h)); clear h2 h3)
          | (go_at_call 71; (with_reducible refine Calls.mono HC5.out ?_); rintro e w5 ⟨rfl, hb⟩; have h3 : MStep p ve4 w4 ve4 w5 := PStep.below hb; have HP5 := Lib.hid (HP4.out.moved hb); have HS5 := Lib.hid (HS4.out.trans h3); have HG5 := Lib.hid (mkeep (HT4.out.trans h3) HP0.out HG0.out (by decide) (by decide)); have HT5 := Lib.hid (HT4.out.trans h3); clear bx; have bx := cell_of_row _ _ 0 _ _ _ HG5.out; have HC6 := Lib.hid (words_new HP5.out [⟨#[59]⟩] 1 [.string ⟨#[59]⟩] rfl rfl (by decide) (by decide) HX6.out); clear hb h3)
          | (go_at_call 58; (with_reducible refine Calls.mono HC6.out ?_); rintro e w6 ⟨rfl, ve6, h2, h3⟩; have HP6 := Lib.hid h2; have HS6 := Lib.hid (HS5.out.trans h3); have HG6 := Lib.hid (mkeep (HT5.out.trans h3) HP0.out HG0.out (by decide) (by decide)); have HT6 := Lib.hid (HT5.out.trans h3); clear bx; have bx := cell_of_row _ _ 0 _ _ _ HG6.out; have HC7 := Lib.hid (G_block n HNN.out W0 A c w6 p i6 d6 out6 ve6 _ HP6.out HX7.out); clear h2 h3)
          | (go_at_call 60; (with_reducible refine Calls.mono HC7.out ?_); rintro e w7 ⟨rfl, ve7, h2, h3⟩; have HP7 := Lib.hid h2; have HS7 := Lib.hid (HS6.out.trans h3); have HG7 := Lib.hid (mkeep (HT6.out.trans h3) HP0.out HG0.out (by decide) (by decide)); have HT7 := Lib.hid (HT6.out.trans h3); clear bx; have bx := cell_of_row _ _ 0 _ _ _ HG7.out; have HC8 := Lib.hid (words_new HP7.out [⟨#[59]⟩] 1 [.string ⟨#[59]⟩] rfl rfl (by decide) (by decide) HX8.out); clear h2 h3)
          | (go_at_call 58; (with_reducible refine Calls.mono HC8.out ?_); rintro e w8 ⟨rfl, ve8, h3⟩; have HS8 := Lib.hid (HS7.out.trans h3); clear h3))
         exact ⟨rfl, rfl, ve8, HS8.out⟩
   ·have hin3 : inL (cAt l i2) [⟨#[40]⟩] = false := by simpa using hin3'
    clear hin3'
    have hr3 : srun l n ⟨([.rule .r_typed] ++ ([.word ⟨#[59]⟩] ++ ([.rule .r_block] ++ [.word ⟨#[59]⟩]))), i2, d2, out2⟩ = some r := if_no (no_params hin3) hr2
    by_cases hin4' : inL (cAt l i2) [⟨#[58]⟩] = true
    ·have hin4 := hin4'
     clear hin4'
     have hr4 : srun l n ⟨([.word ⟨#[58]⟩] ++ ([.rule .r_kind] ++ ([.word ⟨#[59]⟩] ++ ([.rule .r_block] ++ [.word ⟨#[59]⟩])))), i2, d2, out2⟩ = some r := by
      have h := if_yes (S := ([.word ⟨#[59]⟩] ++ ([.rule .r_block] ++ [.word ⟨#[59]⟩]))) (yes_typed hin4) hr3
      exact h
     rcases srun_app l n [.word ⟨#[58]⟩] ([.rule .r_kind] ++ ([.word ⟨#[59]⟩] ++ ([.rule .r_block] ++ [.word ⟨#[59]⟩]))) i2 d2 out2 r hr4 with ⟨er, jj, rfl, h5⟩ | ⟨i5, d5, out5, h5, hr5⟩
     ·skip
      have HX1 := Lib.hid h1; have HX2 := Lib.hid h2; have HX5 := Lib.hid h5
      have HI3 := Lib.hid hin3; have HI4 := Lib.hid hin4
      have HC1 := Lib.hid (words_new HP0.out [⟨#[112, 114, 111, 99]⟩] 1 [.string ⟨#[112, 114, 111, 99]⟩] rfl rfl (by decide) (by decide) HX1.out)
      clear h1 h2 h5 hin3 hin4
      (try clear hr)
      go_enter Try.func94, Try.ntmps94
      go_upto_region 1 with (fail)
      rw [HWB.out, HGE.out]
      go_wp2_with (first
       | (go_at_call 58; (with_reducible refine Calls.mono HC1.out ?_); rintro e w1 ⟨rfl, ve1, h2, h3⟩; have HP1 := Lib.hid h2; have HS1 := Lib.hid (HS0.out.trans h3); have HG1 := Lib.hid (mkeep (HT0.out.trans h3) HP0.out HG0.out (by decide) (by decide)); have HT1 := Lib.hid (HT0.out.trans h3); clear bx; have bx := cell_of_row _ _ 0 _ _ _ HG1.out; have HC2 := Lib.hid (name_any l N n HNN.out W0 A c w1 p i1 d1 out1 ve1 _ HP1.out HX2.out); clear h2 h3)
       | (go_at_call 59; (with_reducible refine Calls.mono HC2.out ?_); rintro e w2 ⟨rfl, ve2, h2, h3⟩; have HP2 := Lib.hid h2; have HS2 := Lib.hid (HS1.out.trans h3); have HG2 := Lib.hid (mkeep (HT1.out.trans h3) HP0.out HG0.out (by decide) (by decide)); have HT2 := Lib.hid (HT1.out.trans h3); clear bx; have bx := cell_of_row _ _ 0 _ _ _ HG2.out; have HC3 := Lib.hid ((by have h := is_new HP2.out [⟨#[40]⟩] 1 [.string ⟨#[40]⟩] rfl rfl (by decide) (by decide); rw [HI3.out] at h; exact h)); clear h2 h3)
       | (go_at_call 71; (with_reducible refine Calls.mono HC3.out ?_); rintro e w3 ⟨rfl, hb⟩; have h3 : MStep p ve2 w2 ve2 w3 := PStep.below hb; have HP3 := Lib.hid (HP2.out.moved hb); have HS3 := Lib.hid (HS2.out.trans h3); have HG3 := Lib.hid (mkeep (HT2.out.trans h3) HP0.out HG0.out (by decide) (by decide)); have HT3 := Lib.hid (HT2.out.trans h3); clear bx; have bx := cell_of_row _ _ 0 _ _ _ HG3.out; have HC4 := Lib.hid ((by have h := is_new HP3.out [⟨#[58]⟩] 1 [.string ⟨#[58]⟩] rfl rfl (by decide) (by decide); rw [HI4.out] at h; exact h)); clear hb h3)
       | (go_at_call 71; (with_reducible refine Calls.mono HC4.out ?_); rintro e w4 ⟨rfl, hb⟩; have h3 : MStep p ve2 w3 ve2 w4 := PStep.below hb; have HP4 := Lib.hid (HP3.out.moved hb); have HS4 := Lib.hid (HS3.out.trans h3); have HG4 := Lib.hid (mkeep (HT3.out.trans h3) HP0.out HG0.out (by decide) (by decide)); have HT4 := Lib.hid (HT3.out.trans h3); clear bx; have bx := cell_of_row _ _ 0 _ _ _ HG4.out; have HC5 := Lib.hid (words_new HP4.out [⟨#[58]⟩] 1 [.string ⟨#[58]⟩] rfl rfl (by decide) (by decide) HX5.out); clear hb h3)
       | (go_at_call 58; (with_reducible refine Calls.mono HC5.out ?_); rintro e w5 ⟨rfl, ve5, h3⟩; have HS5 := Lib.hid (HS4.out.trans h3); clear h3))
      exact ⟨rfl, rfl, ve5, HS5.out⟩
     ·skip
      rcases srun_app l n [.rule .r_kind] ([.word ⟨#[59]⟩] ++ ([.rule .r_block] ++ [.word ⟨#[59]⟩])) i5 d5 out5 r hr5 with ⟨er, jj, rfl, h6⟩ | ⟨i6, d6, out6, h6, hr6⟩
      ·skip
       have HX1 := Lib.hid h1; have HX2 := Lib.hid h2; have HX5 := Lib.hid h5; have HX6 := Lib.hid h6
       have HI3 := Lib.hid hin3; have HI4 := Lib.hid hin4
       have HC1 := Lib.hid (words_new HP0.out [⟨#[112, 114, 111, 99]⟩] 1 [.string ⟨#[112, 114, 111, 99]⟩] rfl rfl (by decide) (by decide) HX1.out)
       clear h1 h2 h5 h6 hin3 hin4
       (try clear hr)
       go_enter Try.func94, Try.ntmps94
       go_upto_region 1 with (fail)
       rw [HWB.out, HGE.out]
       go_wp2_with (first
        | (go_at_call 58; (with_reducible refine Calls.mono HC1.out ?_); rintro e w1 ⟨rfl, ve1, h2, h3⟩; have HP1 := Lib.hid h2; have HS1 := Lib.hid (HS0.out.trans h3); have HG1 := Lib.hid (mkeep (HT0.out.trans h3) HP0.out HG0.out (by decide) (by decide)); have HT1 := Lib.hid (HT0.out.trans h3); clear bx; have bx := cell_of_row _ _ 0 _ _ _ HG1.out; have HC2 := Lib.hid (name_any l N n HNN.out W0 A c w1 p i1 d1 out1 ve1 _ HP1.out HX2.out); clear h2 h3)
        | (go_at_call 59; (with_reducible refine Calls.mono HC2.out ?_); rintro e w2 ⟨rfl, ve2, h2, h3⟩; have HP2 := Lib.hid h2; have HS2 := Lib.hid (HS1.out.trans h3); have HG2 := Lib.hid (mkeep (HT1.out.trans h3) HP0.out HG0.out (by decide) (by decide)); have HT2 := Lib.hid (HT1.out.trans h3); clear bx; have bx := cell_of_row _ _ 0 _ _ _ HG2.out; have HC3 := Lib.hid ((by have h := is_new HP2.out [⟨#[40]⟩] 1 [.string ⟨#[40]⟩] rfl rfl (by decide) (by decide); rw [HI3.out] at h; exact h)); clear h2 h3)
        | (go_at_call 71; (with_reducible refine Calls.mono HC3.out ?_); rintro e w3 ⟨rfl, hb⟩; have h3 : MStep p ve2 w2 ve2 w3 := PStep.below hb; have HP3 := Lib.hid (HP2.out.moved hb); have HS3 := Lib.hid (HS2.out.trans h3); have HG3 := Lib.hid (mkeep (HT2.out.trans h3) HP0.out HG0.out (by decide) (by decide)); have HT3 := Lib.hid (HT2.out.trans h3); clear bx; have bx := cell_of_row _ _ 0 _ _ _ HG3.out; have HC4 := Lib.hid ((by have h := is_new HP3.out [⟨#[58]⟩] 1 [.string ⟨#[58]⟩] rfl rfl (by decide) (by decide); rw [HI4.out] at h; exact h)); clear hb h3)
        | (go_at_call 71; (with_reducible refine Calls.mono HC4.out ?_); rintro e w4 ⟨rfl, hb⟩; have h3 : MStep p ve2 w3 ve2 w4 := PStep.below hb; have HP4 := Lib.hid (HP3.out.moved hb); have HS4 := Lib.hid (HS3.out.trans h3); have HG4 := Lib.hid (mkeep (HT3.out.trans h3) HP0.out HG0.out (by decide) (by decide)); have HT4 := Lib.hid (HT3.out.trans h3); clear bx; have bx := cell_of_row _ _ 0 _ _ _ HG4.out; have HC5 := Lib.hid (words_new HP4.out [⟨#[58]⟩] 1 [.string ⟨#[58]⟩] rfl rfl (by decide) (by decide) HX5.out); clear hb h3)
        | (go_at_call 58; (with_reducible refine Calls.mono HC5.out ?_); rintro e w5 ⟨rfl, ve5, h2, h3⟩; have HP5 := Lib.hid h2; have HS5 := Lib.hid (HS4.out.trans h3); have HG5 := Lib.hid (mkeep (HT4.out.trans h3) HP0.out HG0.out (by decide) (by decide)); have HT5 := Lib.hid (HT4.out.trans h3); clear bx; have bx := cell_of_row _ _ 0 _ _ _ HG5.out; have HC6 := Lib.hid (G_kind n HNN.out W0 A c w5 p i5 d5 out5 ve5 _ HP5.out HX6.out); clear h2 h3)
        | (go_at_call 115; (with_reducible refine Calls.mono HC6.out ?_); rintro e w6 ⟨rfl, ve6, h3⟩; have HS6 := Lib.hid (HS5.out.trans h3); clear h3))
       exact ⟨rfl, rfl, ve6, HS6.out⟩
      ·skip
       rcases srun_app l n [.word ⟨#[59]⟩] ([.rule .r_block] ++ [.word ⟨#[59]⟩]) i6 d6 out6 r hr6 with ⟨er, jj, rfl, h7⟩ | ⟨i7, d7, out7, h7, hr7⟩
       ·skip
        have HX1 := Lib.hid h1; have HX2 := Lib.hid h2; have HX5 := Lib.hid h5; have HX6 := Lib.hid h6; have HX7 := Lib.hid h7
        have HI3 := Lib.hid hin3; have HI4 := Lib.hid hin4
        have HC1 := Lib.hid (words_new HP0.out [⟨#[112, 114, 111, 99]⟩] 1 [.string ⟨#[112, 114, 111, 99]⟩] rfl rfl (by decide) (by decide) HX1.out)
        clear h1 h2 h5 h6 h7 hin3 hin4
        (try clear hr)
        go_enter Try.func94, Try.ntmps94
        go_upto_region 1 with (fail)
        rw [HWB.out, HGE.out]
        go_wp2_with (first
         | (go_at_call 58; (with_reducible refine Calls.mono HC1.out ?_); rintro e w1 ⟨rfl, ve1, h2, h3⟩; have HP1 := Lib.hid h2; have HS1 := Lib.hid (HS0.out.trans h3); have HG1 := Lib.hid (mkeep (HT0.out.trans h3) HP0.out HG0.out (by decide) (by decide)); have HT1 := Lib.hid (HT0.out.trans h3); clear bx; have bx := cell_of_row _ _ 0 _ _ _ HG1.out; have HC2 := Lib.hid (name_any l N n HNN.out W0 A c w1 p i1 d1 out1 ve1 _ HP1.out HX2.out); clear h2 h3)
         | (go_at_call 59; (with_reducible refine Calls.mono HC2.out ?_); rintro e w2 ⟨rfl, ve2, h2, h3⟩; have HP2 := Lib.hid h2; have HS2 := Lib.hid (HS1.out.trans h3); have HG2 := Lib.hid (mkeep (HT1.out.trans h3) HP0.out HG0.out (by decide) (by decide)); have HT2 := Lib.hid (HT1.out.trans h3); clear bx; have bx := cell_of_row _ _ 0 _ _ _ HG2.out; have HC3 := Lib.hid ((by have h := is_new HP2.out [⟨#[40]⟩] 1 [.string ⟨#[40]⟩] rfl rfl (by decide) (by decide); rw [HI3.out] at h; exact h)); clear h2 h3)
         | (go_at_call 71; (with_reducible refine Calls.mono HC3.out ?_); rintro e w3 ⟨rfl, hb⟩; have h3 : MStep p ve2 w2 ve2 w3 := PStep.below hb; have HP3 := Lib.hid (HP2.out.moved hb); have HS3 := Lib.hid (HS2.out.trans h3); have HG3 := Lib.hid (mkeep (HT2.out.trans h3) HP0.out HG0.out (by decide) (by decide)); have HT3 := Lib.hid (HT2.out.trans h3); clear bx; have bx := cell_of_row _ _ 0 _ _ _ HG3.out; have HC4 := Lib.hid ((by have h := is_new HP3.out [⟨#[58]⟩] 1 [.string ⟨#[58]⟩] rfl rfl (by decide) (by decide); rw [HI4.out] at h; exact h)); clear hb h3)
         | (go_at_call 71; (with_reducible refine Calls.mono HC4.out ?_); rintro e w4 ⟨rfl, hb⟩; have h3 : MStep p ve2 w3 ve2 w4 := PStep.below hb; have HP4 := Lib.hid (HP3.out.moved hb); have HS4 := Lib.hid (HS3.out.trans h3); have HG4 := Lib.hid (mkeep (HT3.out.trans h3) HP0.out HG0.out (by decide) (by decide)); have HT4 := Lib.hid (HT3.out.trans h3); clear bx; have bx := cell_of_row _ _ 0 _ _ _ HG4.out; have HC5 := Lib.hid (words_new HP4.out [⟨#[58]⟩] 1 [.string ⟨#[58]⟩] rfl rfl (by decide) (by decide) HX5.out); clear hb h3)
         | (go_at_call 58; (with_reducible refine Calls.mono HC5.out ?_); rintro e w5 ⟨rfl, ve5, h2, h3⟩; have HP5 := Lib.hid h2; have HS5 := Lib.hid (HS4.out.trans h3); have HG5 := Lib.hid (mkeep (HT4.out.trans h3) HP0.out HG0.out (by decide) (by decide)); have HT5 := Lib.hid (HT4.out.trans h3); clear bx; have bx := cell_of_row _ _ 0 _ _ _ HG5.out; have HC6 := Lib.hid (G_kind n HNN.out W0 A c w5 p i5 d5 out5 ve5 _ HP5.out HX6.out); clear h2 h3)
         | (go_at_call 115; (with_reducible refine Calls.mono HC6.out ?_); rintro e w6 ⟨rfl, ve6, h2, h3⟩; have HP6 := Lib.hid h2; have HS6 := Lib.hid (HS5.out.trans h3); have HG6 := Lib.hid (mkeep (HT5.out.trans h3) HP0.out HG0.out (by decide) (by decide)); have HT6 := Lib.hid (HT5.out.trans h3); clear bx; have bx := cell_of_row _ _ 0 _ _ _ HG6.out; have HC7 := Lib.hid (words_new HP6.out [⟨#[59]⟩] 1 [.string ⟨#[59]⟩] rfl rfl (by decide) (by decide) HX7.out); clear h2 h3)
         | (go_at_call 58; (with_reducible refine Calls.mono HC7.out ?_); rintro e w7 ⟨rfl, ve7, h3⟩; have HS7 := Lib.hid (HS6.out.trans h3); clear h3))
        exact ⟨rfl, rfl, ve7, HS7.out⟩
       ·skip
        rcases srun_app l n [.rule .r_block] [.word ⟨#[59]⟩] i7 d7 out7 r hr7 with ⟨er, jj, rfl, h8⟩ | ⟨i8, d8, out8, h8, hr8⟩
        ·skip
         have HX1 := Lib.hid h1; have HX2 := Lib.hid h2; have HX5 := Lib.hid h5; have HX6 := Lib.hid h6; have HX7 := Lib.hid h7; have HX8 := Lib.hid h8
         have HI3 := Lib.hid hin3; have HI4 := Lib.hid hin4
         have HC1 := Lib.hid (words_new HP0.out [⟨#[112, 114, 111, 99]⟩] 1 [.string ⟨#[112, 114, 111, 99]⟩] rfl rfl (by decide) (by decide) HX1.out)
         clear h1 h2 h5 h6 h7 h8 hin3 hin4
         (try clear hr)
         go_enter Try.func94, Try.ntmps94
         go_upto_region 1 with (fail)
         rw [HWB.out, HGE.out]
         go_wp2_with (first
          | (go_at_call 58; (with_reducible refine Calls.mono HC1.out ?_); rintro e w1 ⟨rfl, ve1, h2, h3⟩; have HP1 := Lib.hid h2; have HS1 := Lib.hid (HS0.out.trans h3); have HG1 := Lib.hid (mkeep (HT0.out.trans h3) HP0.out HG0.out (by decide) (by decide)); have HT1 := Lib.hid (HT0.out.trans h3); clear bx; have bx := cell_of_row _ _ 0 _ _ _ HG1.out; have HC2 := Lib.hid (name_any l N n HNN.out W0 A c w1 p i1 d1 out1 ve1 _ HP1.out HX2.out); clear h2 h3)
          | (go_at_call 59; (with_reducible refine Calls.mono HC2.out ?_); rintro e w2 ⟨rfl, ve2, h2, h3⟩; have HP2 := Lib.hid h2; have HS2 := Lib.hid (HS1.out.trans h3); have HG2 := Lib.hid (mkeep (HT1.out.trans h3) HP0.out HG0.out (by decide) (by decide)); have HT2 := Lib.hid (HT1.out.trans h3); clear bx; have bx := cell_of_row _ _ 0 _ _ _ HG2.out; have HC3 := Lib.hid ((by have h := is_new HP2.out [⟨#[40]⟩] 1 [.string ⟨#[40]⟩] rfl rfl (by decide) (by decide); rw [HI3.out] at h; exact h)); clear h2 h3)
          | (go_at_call 71; (with_reducible refine Calls.mono HC3.out ?_); rintro e w3 ⟨rfl, hb⟩; have h3 : MStep p ve2 w2 ve2 w3 := PStep.below hb; have HP3 := Lib.hid (HP2.out.moved hb); have HS3 := Lib.hid (HS2.out.trans h3); have HG3 := Lib.hid (mkeep (HT2.out.trans h3) HP0.out HG0.out (by decide) (by decide)); have HT3 := Lib.hid (HT2.out.trans h3); clear bx; have bx := cell_of_row _ _ 0 _ _ _ HG3.out; have HC4 := Lib.hid ((by have h := is_new HP3.out [⟨#[58]⟩] 1 [.string ⟨#[58]⟩] rfl rfl (by decide) (by decide); rw [HI4.out] at h; exact h)); clear hb h3)
          | (go_at_call 71; (with_reducible refine Calls.mono HC4.out ?_); rintro e w4 ⟨rfl, hb⟩; have h3 : MStep p ve2 w3 ve2 w4 := PStep.below hb; have HP4 := Lib.hid (HP3.out.moved hb); have HS4 := Lib.hid (HS3.out.trans h3); have HG4 := Lib.hid (mkeep (HT3.out.trans h3) HP0.out HG0.out (by decide) (by decide)); have HT4 := Lib.hid (HT3.out.trans h3); clear bx; have bx := cell_of_row _ _ 0 _ _ _ HG4.out; have HC5 := Lib.hid (words_new HP4.out [⟨#[58]⟩] 1 [.string ⟨#[58]⟩] rfl rfl (by decide) (by decide) HX5.out); clear hb h3)
          | (go_at_call 58; (with_reducible refine Calls.mono HC5.out ?_); rintro e w5 ⟨rfl, ve5, h2, h3⟩; have HP5 := Lib.hid h2; have HS5 := Lib.hid (HS4.out.trans h3); have HG5 := Lib.hid (mkeep (HT4.out.trans h3) HP0.out HG0.out (by decide) (by decide)); have HT5 := Lib.hid (HT4.out.trans h3); clear bx; have bx := cell_of_row _ _ 0 _ _ _ HG5.out; have HC6 := Lib.hid (G_kind n HNN.out W0 A c w5 p i5 d5 out5 ve5 _ HP5.out HX6.out); clear h2 h3)
          | (go_at_call 115; (with_reducible refine Calls.mono HC6.out ?_); rintro e w6 ⟨rfl, ve6, h2, h3⟩; have HP6 := Lib.hid h2; have HS6 := Lib.hid (HS5.out.trans h3); have HG6 := Lib.hid (mkeep (HT5.out.trans h3) HP0.out HG0.out (by decide) (by decide)); have HT6 := Lib.hid (HT5.out.trans h3); clear bx; have bx := cell_of_row _ _ 0 _ _ _ HG6.out; have HC7 := Lib.hid (words_new HP6.out [⟨#[59]⟩] 1 [.string ⟨#[59]⟩] rfl rfl (by decide) (by decide) HX7.out); clear h2 h3)
          | (go_at_call 58; (with_reducible refine Calls.mono HC7.out ?_); rintro e w7 ⟨rfl, ve7, h2, h3⟩; have HP7 := Lib.hid h2; have HS7 := Lib.hid (HS6.out.trans h3); have HG7 := Lib.hid (mkeep (HT6.out.trans h3) HP0.out HG0.out (by decide) (by decide)); have HT7 := Lib.hid (HT6.out.trans h3); clear bx; have bx := cell_of_row _ _ 0 _ _ _ HG7.out; have HC8 := Lib.hid (G_block n HNN.out W0 A c w7 p i7 d7 out7 ve7 _ HP7.out HX8.out); clear h2 h3)
          | (go_at_call 60; (with_reducible refine Calls.mono HC8.out ?_); rintro e w8 ⟨rfl, ve8, h3⟩; have HS8 := Lib.hid (HS7.out.trans h3); clear h3))
         exact ⟨rfl, rfl, ve8, HS8.out⟩
        ·skip
         have h9 := hr8
         cases r with
         | ok i9 d9 out9 =>
          have HX1 := Lib.hid h1; have HX2 := Lib.hid h2; have HX5 := Lib.hid h5; have HX6 := Lib.hid h6; have HX7 := Lib.hid h7; have HX8 := Lib.hid h8; have HX9 := Lib.hid h9
          have HI3 := Lib.hid hin3; have HI4 := Lib.hid hin4
          have HC1 := Lib.hid (words_new HP0.out [⟨#[112, 114, 111, 99]⟩] 1 [.string ⟨#[112, 114, 111, 99]⟩] rfl rfl (by decide) (by decide) HX1.out)
          clear h1 h2 h5 h6 h7 h8 h9 hin3 hin4
          (try clear hr)
          go_enter Try.func94, Try.ntmps94
          go_upto_region 1 with (fail)
          rw [HWB.out, HGE.out]
          go_wp2_with (first
           | (go_at_call 58; (with_reducible refine Calls.mono HC1.out ?_); rintro e w1 ⟨rfl, ve1, h2, h3⟩; have HP1 := Lib.hid h2; have HS1 := Lib.hid (HS0.out.trans h3); have HG1 := Lib.hid (mkeep (HT0.out.trans h3) HP0.out HG0.out (by decide) (by decide)); have HT1 := Lib.hid (HT0.out.trans h3); clear bx; have bx := cell_of_row _ _ 0 _ _ _ HG1.out; have HC2 := Lib.hid (name_any l N n HNN.out W0 A c w1 p i1 d1 out1 ve1 _ HP1.out HX2.out); clear h2 h3)
           | (go_at_call 59; (with_reducible refine Calls.mono HC2.out ?_); rintro e w2 ⟨rfl, ve2, h2, h3⟩; have HP2 := Lib.hid h2; have HS2 := Lib.hid (HS1.out.trans h3); have HG2 := Lib.hid (mkeep (HT1.out.trans h3) HP0.out HG0.out (by decide) (by decide)); have HT2 := Lib.hid (HT1.out.trans h3); clear bx; have bx := cell_of_row _ _ 0 _ _ _ HG2.out; have HC3 := Lib.hid ((by have h := is_new HP2.out [⟨#[40]⟩] 1 [.string ⟨#[40]⟩] rfl rfl (by decide) (by decide); rw [HI3.out] at h; exact h)); clear h2 h3)
           | (go_at_call 71; (with_reducible refine Calls.mono HC3.out ?_); rintro e w3 ⟨rfl, hb⟩; have h3 : MStep p ve2 w2 ve2 w3 := PStep.below hb; have HP3 := Lib.hid (HP2.out.moved hb); have HS3 := Lib.hid (HS2.out.trans h3); have HG3 := Lib.hid (mkeep (HT2.out.trans h3) HP0.out HG0.out (by decide) (by decide)); have HT3 := Lib.hid (HT2.out.trans h3); clear bx; have bx := cell_of_row _ _ 0 _ _ _ HG3.out; have HC4 := Lib.hid ((by have h := is_new HP3.out [⟨#[58]⟩] 1 [.string ⟨#[58]⟩] rfl rfl (by decide) (by decide); rw [HI4.out] at h; exact h)); clear hb h3)
           | (go_at_call 71; (with_reducible refine Calls.mono HC4.out ?_); rintro e w4 ⟨rfl, hb⟩; have h3 : MStep p ve2 w3 ve2 w4 := PStep.below hb; have HP4 := Lib.hid (HP3.out.moved hb); have HS4 := Lib.hid (HS3.out.trans h3); have HG4 := Lib.hid (mkeep (HT3.out.trans h3) HP0.out HG0.out (by decide) (by decide)); have HT4 := Lib.hid (HT3.out.trans h3); clear bx; have bx := cell_of_row _ _ 0 _ _ _ HG4.out; have HC5 := Lib.hid (words_new HP4.out [⟨#[58]⟩] 1 [.string ⟨#[58]⟩] rfl rfl (by decide) (by decide) HX5.out); clear hb h3)
           | (go_at_call 58; (with_reducible refine Calls.mono HC5.out ?_); rintro e w5 ⟨rfl, ve5, h2, h3⟩; have HP5 := Lib.hid h2; have HS5 := Lib.hid (HS4.out.trans h3); have HG5 := Lib.hid (mkeep (HT4.out.trans h3) HP0.out HG0.out (by decide) (by decide)); have HT5 := Lib.hid (HT4.out.trans h3); clear bx; have bx := cell_of_row _ _ 0 _ _ _ HG5.out; have HC6 := Lib.hid (G_kind n HNN.out W0 A c w5 p i5 d5 out5 ve5 _ HP5.out HX6.out); clear h2 h3)
           | (go_at_call 115; (with_reducible refine Calls.mono HC6.out ?_); rintro e w6 ⟨rfl, ve6, h2, h3⟩; have HP6 := Lib.hid h2; have HS6 := Lib.hid (HS5.out.trans h3); have HG6 := Lib.hid (mkeep (HT5.out.trans h3) HP0.out HG0.out (by decide) (by decide)); have HT6 := Lib.hid (HT5.out.trans h3); clear bx; have bx := cell_of_row _ _ 0 _ _ _ HG6.out; have HC7 := Lib.hid (words_new HP6.out [⟨#[59]⟩] 1 [.string ⟨#[59]⟩] rfl rfl (by decide) (by decide) HX7.out); clear h2 h3)
           | (go_at_call 58; (with_reducible refine Calls.mono HC7.out ?_); rintro e w7 ⟨rfl, ve7, h2, h3⟩; have HP7 := Lib.hid h2; have HS7 := Lib.hid (HS6.out.trans h3); have HG7 := Lib.hid (mkeep (HT6.out.trans h3) HP0.out HG0.out (by decide) (by decide)); have HT7 := Lib.hid (HT6.out.trans h3); clear bx; have bx := cell_of_row _ _ 0 _ _ _ HG7.out; have HC8 := Lib.hid (G_block n HNN.out W0 A c w7 p i7 d7 out7 ve7 _ HP7.out HX8.out); clear h2 h3)
           | (go_at_call 60; (with_reducible refine Calls.mono HC8.out ?_); rintro e w8 ⟨rfl, ve8, h2, h3⟩; have HP8 := Lib.hid h2; have HS8 := Lib.hid (HS7.out.trans h3); have HG8 := Lib.hid (mkeep (HT7.out.trans h3) HP0.out HG0.out (by decide) (by decide)); have HT8 := Lib.hid (HT7.out.trans h3); clear bx; have bx := cell_of_row _ _ 0 _ _ _ HG8.out; have HC9 := Lib.hid (words_new HP8.out [⟨#[59]⟩] 1 [.string ⟨#[59]⟩] rfl rfl (by decide) (by decide) HX9.out); clear h2 h3)
           | (go_at_call 58; (with_reducible refine Calls.mono HC9.out ?_); rintro e w9 ⟨rfl, ve9, h2, h3⟩; have HP9 := Lib.hid h2; have HS9 := Lib.hid (HS8.out.trans h3); have HG9 := Lib.hid (mkeep (HT8.out.trans h3) HP0.out HG0.out (by decide) (by decide)); have HT9 := Lib.hid (HT8.out.trans h3); clear bx; have bx := cell_of_row _ _ 0 _ _ _ HG9.out; clear h2 h3))
          go_end0
          exact ⟨rfl, ve9, HP9.out, HS9.out⟩
         | err er jj =>
          have HX1 := Lib.hid h1; have HX2 := Lib.hid h2; have HX5 := Lib.hid h5; have HX6 := Lib.hid h6; have HX7 := Lib.hid h7; have HX8 := Lib.hid h8; have HX9 := Lib.hid h9
          have HI3 := Lib.hid hin3; have HI4 := Lib.hid hin4
          have HC1 := Lib.hid (words_new HP0.out [⟨#[112, 114, 111, 99]⟩] 1 [.string ⟨#[112, 114, 111, 99]⟩] rfl rfl (by decide) (by decide) HX1.out)
          clear h1 h2 h5 h6 h7 h8 h9 hin3 hin4
          (try clear hr)
          go_enter Try.func94, Try.ntmps94
          go_upto_region 1 with (fail)
          rw [HWB.out, HGE.out]
          go_wp2_with (first
           | (go_at_call 58; (with_reducible refine Calls.mono HC1.out ?_); rintro e w1 ⟨rfl, ve1, h2, h3⟩; have HP1 := Lib.hid h2; have HS1 := Lib.hid (HS0.out.trans h3); have HG1 := Lib.hid (mkeep (HT0.out.trans h3) HP0.out HG0.out (by decide) (by decide)); have HT1 := Lib.hid (HT0.out.trans h3); clear bx; have bx := cell_of_row _ _ 0 _ _ _ HG1.out; have HC2 := Lib.hid (name_any l N n HNN.out W0 A c w1 p i1 d1 out1 ve1 _ HP1.out HX2.out); clear h2 h3)
           | (go_at_call 59; (with_reducible refine Calls.mono HC2.out ?_); rintro e w2 ⟨rfl, ve2, h2, h3⟩; have HP2 := Lib.hid h2; have HS2 := Lib.hid (HS1.out.trans h3); have HG2 := Lib.hid (mkeep (HT1.out.trans h3) HP0.out HG0.out (by decide) (by decide)); have HT2 := Lib.hid (HT1.out.trans h3); clear bx; have bx := cell_of_row _ _ 0 _ _ _ HG2.out; have HC3 := Lib.hid ((by have h := is_new HP2.out [⟨#[40]⟩] 1 [.string ⟨#[40]⟩] rfl rfl (by decide) (by decide); rw [HI3.out] at h; exact h)); clear h2 h3)
           | (go_at_call 71; (with_reducible refine Calls.mono HC3.out ?_); rintro e w3 ⟨rfl, hb⟩; have h3 : MStep p ve2 w2 ve2 w3 := PStep.below hb; have HP3 := Lib.hid (HP2.out.moved hb); have HS3 := Lib.hid (HS2.out.trans h3); have HG3 := Lib.hid (mkeep (HT2.out.trans h3) HP0.out HG0.out (by decide) (by decide)); have HT3 := Lib.hid (HT2.out.trans h3); clear bx; have bx := cell_of_row _ _ 0 _ _ _ HG3.out; have HC4 := Lib.hid ((by have h := is_new HP3.out [⟨#[58]⟩] 1 [.string ⟨#[58]⟩] rfl rfl (by decide) (by decide); rw [HI4.out] at h; exact h)); clear hb h3)
           | (go_at_call 71; (with_reducible refine Calls.mono HC4.out ?_); rintro e w4 ⟨rfl, hb⟩; have h3 : MStep p ve2 w3 ve2 w4 := PStep.below hb; have HP4 := Lib.hid (HP3.out.moved hb); have HS4 := Lib.hid (HS3.out.trans h3); have HG4 := Lib.hid (mkeep (HT3.out.trans h3) HP0.out HG0.out (by decide) (by decide)); have HT4 := Lib.hid (HT3.out.trans h3); clear bx; have bx := cell_of_row _ _ 0 _ _ _ HG4.out; have HC5 := Lib.hid (words_new HP4.out [⟨#[58]⟩] 1 [.string ⟨#[58]⟩] rfl rfl (by decide) (by decide) HX5.out); clear hb h3)
           | (go_at_call 58; (with_reducible refine Calls.mono HC5.out ?_); rintro e w5 ⟨rfl, ve5, h2, h3⟩; have HP5 := Lib.hid h2; have HS5 := Lib.hid (HS4.out.trans h3); have HG5 := Lib.hid (mkeep (HT4.out.trans h3) HP0.out HG0.out (by decide) (by decide)); have HT5 := Lib.hid (HT4.out.trans h3); clear bx; have bx := cell_of_row _ _ 0 _ _ _ HG5.out; have HC6 := Lib.hid (G_kind n HNN.out W0 A c w5 p i5 d5 out5 ve5 _ HP5.out HX6.out); clear h2 h3)
           | (go_at_call 115; (with_reducible refine Calls.mono HC6.out ?_); rintro e w6 ⟨rfl, ve6, h2, h3⟩; have HP6 := Lib.hid h2; have HS6 := Lib.hid (HS5.out.trans h3); have HG6 := Lib.hid (mkeep (HT5.out.trans h3) HP0.out HG0.out (by decide) (by decide)); have HT6 := Lib.hid (HT5.out.trans h3); clear bx; have bx := cell_of_row _ _ 0 _ _ _ HG6.out; have HC7 := Lib.hid (words_new HP6.out [⟨#[59]⟩] 1 [.string ⟨#[59]⟩] rfl rfl (by decide) (by decide) HX7.out); clear h2 h3)
           | (go_at_call 58; (with_reducible refine Calls.mono HC7.out ?_); rintro e w7 ⟨rfl, ve7, h2, h3⟩; have HP7 := Lib.hid h2; have HS7 := Lib.hid (HS6.out.trans h3); have HG7 := Lib.hid (mkeep (HT6.out.trans h3) HP0.out HG0.out (by decide) (by decide)); have HT7 := Lib.hid (HT6.out.trans h3); clear bx; have bx := cell_of_row _ _ 0 _ _ _ HG7.out; have HC8 := Lib.hid (G_block n HNN.out W0 A c w7 p i7 d7 out7 ve7 _ HP7.out HX8.out); clear h2 h3)
           | (go_at_call 60; (with_reducible refine Calls.mono HC8.out ?_); rintro e w8 ⟨rfl, ve8, h2, h3⟩; have HP8 := Lib.hid h2; have HS8 := Lib.hid (HS7.out.trans h3); have HG8 := Lib.hid (mkeep (HT7.out.trans h3) HP0.out HG0.out (by decide) (by decide)); have HT8 := Lib.hid (HT7.out.trans h3); clear bx; have bx := cell_of_row _ _ 0 _ _ _ HG8.out; have HC9 := Lib.hid (words_new HP8.out [⟨#[59]⟩] 1 [.string ⟨#[59]⟩] rfl rfl (by decide) (by decide) HX9.out); clear h2 h3)
           | (go_at_call 58; (with_reducible refine Calls.mono HC9.out ?_); rintro e w9 ⟨rfl, ve9, h3⟩; have HS9 := Lib.hid (HS8.out.trans h3); clear h3))
          exact ⟨rfl, rfl, ve9, HS9.out⟩
    ·have hin4 : inL (cAt l i2) [⟨#[58]⟩] = false := by simpa using hin4'
     clear hin4'
     have hr4 : srun l n ⟨([.word ⟨#[59]⟩] ++ ([.rule .r_block] ++ [.word ⟨#[59]⟩])), i2, d2, out2⟩ = some r := if_no (no_typed hin4) hr3
     rcases srun_app l n [.word ⟨#[59]⟩] ([.rule .r_block] ++ [.word ⟨#[59]⟩]) i2 d2 out2 r hr4 with ⟨er, jj, rfl, h5⟩ | ⟨i5, d5, out5, h5, hr5⟩
     ·skip
      have HX1 := Lib.hid h1; have HX2 := Lib.hid h2; have HX5 := Lib.hid h5
      have HI3 := Lib.hid hin3; have HI4 := Lib.hid hin4
      have HC1 := Lib.hid (words_new HP0.out [⟨#[112, 114, 111, 99]⟩] 1 [.string ⟨#[112, 114, 111, 99]⟩] rfl rfl (by decide) (by decide) HX1.out)
      clear h1 h2 h5 hin3 hin4
      (try clear hr)
      go_enter Try.func94, Try.ntmps94
      go_upto_region 1 with (fail)
      rw [HWB.out, HGE.out]
      go_wp2_with (first
       | (go_at_call 58; (with_reducible refine Calls.mono HC1.out ?_); rintro e w1 ⟨rfl, ve1, h2, h3⟩; have HP1 := Lib.hid h2; have HS1 := Lib.hid (HS0.out.trans h3); have HG1 := Lib.hid (mkeep (HT0.out.trans h3) HP0.out HG0.out (by decide) (by decide)); have HT1 := Lib.hid (HT0.out.trans h3); clear bx; have bx := cell_of_row _ _ 0 _ _ _ HG1.out; have HC2 := Lib.hid (name_any l N n HNN.out W0 A c w1 p i1 d1 out1 ve1 _ HP1.out HX2.out); clear h2 h3)
       | (go_at_call 59; (with_reducible refine Calls.mono HC2.out ?_); rintro e w2 ⟨rfl, ve2, h2, h3⟩; have HP2 := Lib.hid h2; have HS2 := Lib.hid (HS1.out.trans h3); have HG2 := Lib.hid (mkeep (HT1.out.trans h3) HP0.out HG0.out (by decide) (by decide)); have HT2 := Lib.hid (HT1.out.trans h3); clear bx; have bx := cell_of_row _ _ 0 _ _ _ HG2.out; have HC3 := Lib.hid ((by have h := is_new HP2.out [⟨#[40]⟩] 1 [.string ⟨#[40]⟩] rfl rfl (by decide) (by decide); rw [HI3.out] at h; exact h)); clear h2 h3)
       | (go_at_call 71; (with_reducible refine Calls.mono HC3.out ?_); rintro e w3 ⟨rfl, hb⟩; have h3 : MStep p ve2 w2 ve2 w3 := PStep.below hb; have HP3 := Lib.hid (HP2.out.moved hb); have HS3 := Lib.hid (HS2.out.trans h3); have HG3 := Lib.hid (mkeep (HT2.out.trans h3) HP0.out HG0.out (by decide) (by decide)); have HT3 := Lib.hid (HT2.out.trans h3); clear bx; have bx := cell_of_row _ _ 0 _ _ _ HG3.out; have HC4 := Lib.hid ((by have h := is_new HP3.out [⟨#[58]⟩] 1 [.string ⟨#[58]⟩] rfl rfl (by decide) (by decide); rw [HI4.out] at h; exact h)); clear hb h3)
       | (go_at_call 71; (with_reducible refine Calls.mono HC4.out ?_); rintro e w4 ⟨rfl, hb⟩; have h3 : MStep p ve2 w3 ve2 w4 := PStep.below hb; have HP4 := Lib.hid (HP3.out.moved hb); have HS4 := Lib.hid (HS3.out.trans h3); have HG4 := Lib.hid (mkeep (HT3.out.trans h3) HP0.out HG0.out (by decide) (by decide)); have HT4 := Lib.hid (HT3.out.trans h3); clear bx; have bx := cell_of_row _ _ 0 _ _ _ HG4.out; have HC5 := Lib.hid (words_new HP4.out [⟨#[59]⟩] 1 [.string ⟨#[59]⟩] rfl rfl (by decide) (by decide) HX5.out); clear hb h3)
       | (go_at_call 58; (with_reducible refine Calls.mono HC5.out ?_); rintro e w5 ⟨rfl, ve5, h3⟩; have HS5 := Lib.hid (HS4.out.trans h3); clear h3))
      exact ⟨rfl, rfl, ve5, HS5.out⟩
     ·skip
      rcases srun_app l n [.rule .r_block] [.word ⟨#[59]⟩] i5 d5 out5 r hr5 with ⟨er, jj, rfl, h6⟩ | ⟨i6, d6, out6, h6, hr6⟩
      ·skip
       have HX1 := Lib.hid h1; have HX2 := Lib.hid h2; have HX5 := Lib.hid h5; have HX6 := Lib.hid h6
       have HI3 := Lib.hid hin3; have HI4 := Lib.hid hin4
       have HC1 := Lib.hid (words_new HP0.out [⟨#[112, 114, 111, 99]⟩] 1 [.string ⟨#[112, 114, 111, 99]⟩] rfl rfl (by decide) (by decide) HX1.out)
       clear h1 h2 h5 h6 hin3 hin4
       (try clear hr)
       go_enter Try.func94, Try.ntmps94
       go_upto_region 1 with (fail)
       rw [HWB.out, HGE.out]
       go_wp2_with (first
        | (go_at_call 58; (with_reducible refine Calls.mono HC1.out ?_); rintro e w1 ⟨rfl, ve1, h2, h3⟩; have HP1 := Lib.hid h2; have HS1 := Lib.hid (HS0.out.trans h3); have HG1 := Lib.hid (mkeep (HT0.out.trans h3) HP0.out HG0.out (by decide) (by decide)); have HT1 := Lib.hid (HT0.out.trans h3); clear bx; have bx := cell_of_row _ _ 0 _ _ _ HG1.out; have HC2 := Lib.hid (name_any l N n HNN.out W0 A c w1 p i1 d1 out1 ve1 _ HP1.out HX2.out); clear h2 h3)
        | (go_at_call 59; (with_reducible refine Calls.mono HC2.out ?_); rintro e w2 ⟨rfl, ve2, h2, h3⟩; have HP2 := Lib.hid h2; have HS2 := Lib.hid (HS1.out.trans h3); have HG2 := Lib.hid (mkeep (HT1.out.trans h3) HP0.out HG0.out (by decide) (by decide)); have HT2 := Lib.hid (HT1.out.trans h3); clear bx; have bx := cell_of_row _ _ 0 _ _ _ HG2.out; have HC3 := Lib.hid ((by have h := is_new HP2.out [⟨#[40]⟩] 1 [.string ⟨#[40]⟩] rfl rfl (by decide) (by decide); rw [HI3.out] at h; exact h)); clear h2 h3)
        | (go_at_call 71; (with_reducible refine Calls.mono HC3.out ?_); rintro e w3 ⟨rfl, hb⟩; have h3 : MStep p ve2 w2 ve2 w3 := PStep.below hb; have HP3 := Lib.hid (HP2.out.moved hb); have HS3 := Lib.hid (HS2.out.trans h3); have HG3 := Lib.hid (mkeep (HT2.out.trans h3) HP0.out HG0.out (by decide) (by decide)); have HT3 := Lib.hid (HT2.out.trans h3); clear bx; have bx := cell_of_row _ _ 0 _ _ _ HG3.out; have HC4 := Lib.hid ((by have h := is_new HP3.out [⟨#[58]⟩] 1 [.string ⟨#[58]⟩] rfl rfl (by decide) (by decide); rw [HI4.out] at h; exact h)); clear hb h3)
        | (go_at_call 71; (with_reducible refine Calls.mono HC4.out ?_); rintro e w4 ⟨rfl, hb⟩; have h3 : MStep p ve2 w3 ve2 w4 := PStep.below hb; have HP4 := Lib.hid (HP3.out.moved hb); have HS4 := Lib.hid (HS3.out.trans h3); have HG4 := Lib.hid (mkeep (HT3.out.trans h3) HP0.out HG0.out (by decide) (by decide)); have HT4 := Lib.hid (HT3.out.trans h3); clear bx; have bx := cell_of_row _ _ 0 _ _ _ HG4.out; have HC5 := Lib.hid (words_new HP4.out [⟨#[59]⟩] 1 [.string ⟨#[59]⟩] rfl rfl (by decide) (by decide) HX5.out); clear hb h3)
        | (go_at_call 58; (with_reducible refine Calls.mono HC5.out ?_); rintro e w5 ⟨rfl, ve5, h2, h3⟩; have HP5 := Lib.hid h2; have HS5 := Lib.hid (HS4.out.trans h3); have HG5 := Lib.hid (mkeep (HT4.out.trans h3) HP0.out HG0.out (by decide) (by decide)); have HT5 := Lib.hid (HT4.out.trans h3); clear bx; have bx := cell_of_row _ _ 0 _ _ _ HG5.out; have HC6 := Lib.hid (G_block n HNN.out W0 A c w5 p i5 d5 out5 ve5 _ HP5.out HX6.out); clear h2 h3)
        | (go_at_call 60; (with_reducible refine Calls.mono HC6.out ?_); rintro e w6 ⟨rfl, ve6, h3⟩; have HS6 := Lib.hid (HS5.out.trans h3); clear h3))
       exact ⟨rfl, rfl, ve6, HS6.out⟩
      ·skip
       have h7 := hr6
       cases r with
       | ok i7 d7 out7 =>
        have HX1 := Lib.hid h1; have HX2 := Lib.hid h2; have HX5 := Lib.hid h5; have HX6 := Lib.hid h6; have HX7 := Lib.hid h7
        have HI3 := Lib.hid hin3; have HI4 := Lib.hid hin4
        have HC1 := Lib.hid (words_new HP0.out [⟨#[112, 114, 111, 99]⟩] 1 [.string ⟨#[112, 114, 111, 99]⟩] rfl rfl (by decide) (by decide) HX1.out)
        clear h1 h2 h5 h6 h7 hin3 hin4
        (try clear hr)
        go_enter Try.func94, Try.ntmps94
        go_upto_region 1 with (fail)
        rw [HWB.out, HGE.out]
        go_wp2_with (first
         | (go_at_call 58; (with_reducible refine Calls.mono HC1.out ?_); rintro e w1 ⟨rfl, ve1, h2, h3⟩; have HP1 := Lib.hid h2; have HS1 := Lib.hid (HS0.out.trans h3); have HG1 := Lib.hid (mkeep (HT0.out.trans h3) HP0.out HG0.out (by decide) (by decide)); have HT1 := Lib.hid (HT0.out.trans h3); clear bx; have bx := cell_of_row _ _ 0 _ _ _ HG1.out; have HC2 := Lib.hid (name_any l N n HNN.out W0 A c w1 p i1 d1 out1 ve1 _ HP1.out HX2.out); clear h2 h3)
         | (go_at_call 59; (with_reducible refine Calls.mono HC2.out ?_); rintro e w2 ⟨rfl, ve2, h2, h3⟩; have HP2 := Lib.hid h2; have HS2 := Lib.hid (HS1.out.trans h3); have HG2 := Lib.hid (mkeep (HT1.out.trans h3) HP0.out HG0.out (by decide) (by decide)); have HT2 := Lib.hid (HT1.out.trans h3); clear bx; have bx := cell_of_row _ _ 0 _ _ _ HG2.out; have HC3 := Lib.hid ((by have h := is_new HP2.out [⟨#[40]⟩] 1 [.string ⟨#[40]⟩] rfl rfl (by decide) (by decide); rw [HI3.out] at h; exact h)); clear h2 h3)
         | (go_at_call 71; (with_reducible refine Calls.mono HC3.out ?_); rintro e w3 ⟨rfl, hb⟩; have h3 : MStep p ve2 w2 ve2 w3 := PStep.below hb; have HP3 := Lib.hid (HP2.out.moved hb); have HS3 := Lib.hid (HS2.out.trans h3); have HG3 := Lib.hid (mkeep (HT2.out.trans h3) HP0.out HG0.out (by decide) (by decide)); have HT3 := Lib.hid (HT2.out.trans h3); clear bx; have bx := cell_of_row _ _ 0 _ _ _ HG3.out; have HC4 := Lib.hid ((by have h := is_new HP3.out [⟨#[58]⟩] 1 [.string ⟨#[58]⟩] rfl rfl (by decide) (by decide); rw [HI4.out] at h; exact h)); clear hb h3)
         | (go_at_call 71; (with_reducible refine Calls.mono HC4.out ?_); rintro e w4 ⟨rfl, hb⟩; have h3 : MStep p ve2 w3 ve2 w4 := PStep.below hb; have HP4 := Lib.hid (HP3.out.moved hb); have HS4 := Lib.hid (HS3.out.trans h3); have HG4 := Lib.hid (mkeep (HT3.out.trans h3) HP0.out HG0.out (by decide) (by decide)); have HT4 := Lib.hid (HT3.out.trans h3); clear bx; have bx := cell_of_row _ _ 0 _ _ _ HG4.out; have HC5 := Lib.hid (words_new HP4.out [⟨#[59]⟩] 1 [.string ⟨#[59]⟩] rfl rfl (by decide) (by decide) HX5.out); clear hb h3)
         | (go_at_call 58; (with_reducible refine Calls.mono HC5.out ?_); rintro e w5 ⟨rfl, ve5, h2, h3⟩; have HP5 := Lib.hid h2; have HS5 := Lib.hid (HS4.out.trans h3); have HG5 := Lib.hid (mkeep (HT4.out.trans h3) HP0.out HG0.out (by decide) (by decide)); have HT5 := Lib.hid (HT4.out.trans h3); clear bx; have bx := cell_of_row _ _ 0 _ _ _ HG5.out; have HC6 := Lib.hid (G_block n HNN.out W0 A c w5 p i5 d5 out5 ve5 _ HP5.out HX6.out); clear h2 h3)
         | (go_at_call 60; (with_reducible refine Calls.mono HC6.out ?_); rintro e w6 ⟨rfl, ve6, h2, h3⟩; have HP6 := Lib.hid h2; have HS6 := Lib.hid (HS5.out.trans h3); have HG6 := Lib.hid (mkeep (HT5.out.trans h3) HP0.out HG0.out (by decide) (by decide)); have HT6 := Lib.hid (HT5.out.trans h3); clear bx; have bx := cell_of_row _ _ 0 _ _ _ HG6.out; have HC7 := Lib.hid (words_new HP6.out [⟨#[59]⟩] 1 [.string ⟨#[59]⟩] rfl rfl (by decide) (by decide) HX7.out); clear h2 h3)
         | (go_at_call 58; (with_reducible refine Calls.mono HC7.out ?_); rintro e w7 ⟨rfl, ve7, h2, h3⟩; have HP7 := Lib.hid h2; have HS7 := Lib.hid (HS6.out.trans h3); have HG7 := Lib.hid (mkeep (HT6.out.trans h3) HP0.out HG0.out (by decide) (by decide)); have HT7 := Lib.hid (HT6.out.trans h3); clear bx; have bx := cell_of_row _ _ 0 _ _ _ HG7.out; clear h2 h3))
        go_end0
        exact ⟨rfl, ve7, HP7.out, HS7.out⟩
       | err er jj =>
        have HX1 := Lib.hid h1; have HX2 := Lib.hid h2; have HX5 := Lib.hid h5; have HX6 := Lib.hid h6; have HX7 := Lib.hid h7
        have HI3 := Lib.hid hin3; have HI4 := Lib.hid hin4
        have HC1 := Lib.hid (words_new HP0.out [⟨#[112, 114, 111, 99]⟩] 1 [.string ⟨#[112, 114, 111, 99]⟩] rfl rfl (by decide) (by decide) HX1.out)
        clear h1 h2 h5 h6 h7 hin3 hin4
        (try clear hr)
        go_enter Try.func94, Try.ntmps94
        go_upto_region 1 with (fail)
        rw [HWB.out, HGE.out]
        go_wp2_with (first
         | (go_at_call 58; (with_reducible refine Calls.mono HC1.out ?_); rintro e w1 ⟨rfl, ve1, h2, h3⟩; have HP1 := Lib.hid h2; have HS1 := Lib.hid (HS0.out.trans h3); have HG1 := Lib.hid (mkeep (HT0.out.trans h3) HP0.out HG0.out (by decide) (by decide)); have HT1 := Lib.hid (HT0.out.trans h3); clear bx; have bx := cell_of_row _ _ 0 _ _ _ HG1.out; have HC2 := Lib.hid (name_any l N n HNN.out W0 A c w1 p i1 d1 out1 ve1 _ HP1.out HX2.out); clear h2 h3)
         | (go_at_call 59; (with_reducible refine Calls.mono HC2.out ?_); rintro e w2 ⟨rfl, ve2, h2, h3⟩; have HP2 := Lib.hid h2; have HS2 := Lib.hid (HS1.out.trans h3); have HG2 := Lib.hid (mkeep (HT1.out.trans h3) HP0.out HG0.out (by decide) (by decide)); have HT2 := Lib.hid (HT1.out.trans h3); clear bx; have bx := cell_of_row _ _ 0 _ _ _ HG2.out; have HC3 := Lib.hid ((by have h := is_new HP2.out [⟨#[40]⟩] 1 [.string ⟨#[40]⟩] rfl rfl (by decide) (by decide); rw [HI3.out] at h; exact h)); clear h2 h3)
         | (go_at_call 71; (with_reducible refine Calls.mono HC3.out ?_); rintro e w3 ⟨rfl, hb⟩; have h3 : MStep p ve2 w2 ve2 w3 := PStep.below hb; have HP3 := Lib.hid (HP2.out.moved hb); have HS3 := Lib.hid (HS2.out.trans h3); have HG3 := Lib.hid (mkeep (HT2.out.trans h3) HP0.out HG0.out (by decide) (by decide)); have HT3 := Lib.hid (HT2.out.trans h3); clear bx; have bx := cell_of_row _ _ 0 _ _ _ HG3.out; have HC4 := Lib.hid ((by have h := is_new HP3.out [⟨#[58]⟩] 1 [.string ⟨#[58]⟩] rfl rfl (by decide) (by decide); rw [HI4.out] at h; exact h)); clear hb h3)
         | (go_at_call 71; (with_reducible refine Calls.mono HC4.out ?_); rintro e w4 ⟨rfl, hb⟩; have h3 : MStep p ve2 w3 ve2 w4 := PStep.below hb; have HP4 := Lib.hid (HP3.out.moved hb); have HS4 := Lib.hid (HS3.out.trans h3); have HG4 := Lib.hid (mkeep (HT3.out.trans h3) HP0.out HG0.out (by decide) (by decide)); have HT4 := Lib.hid (HT3.out.trans h3); clear bx; have bx := cell_of_row _ _ 0 _ _ _ HG4.out; have HC5 := Lib.hid (words_new HP4.out [⟨#[59]⟩] 1 [.string ⟨#[59]⟩] rfl rfl (by decide) (by decide) HX5.out); clear hb h3)
         | (go_at_call 58; (with_reducible refine Calls.mono HC5.out ?_); rintro e w5 ⟨rfl, ve5, h2, h3⟩; have HP5 := Lib.hid h2; have HS5 := Lib.hid (HS4.out.trans h3); have HG5 := Lib.hid (mkeep (HT4.out.trans h3) HP0.out HG0.out (by decide) (by decide)); have HT5 := Lib.hid (HT4.out.trans h3); clear bx; have bx := cell_of_row _ _ 0 _ _ _ HG5.out; have HC6 := Lib.hid (G_block n HNN.out W0 A c w5 p i5 d5 out5 ve5 _ HP5.out HX6.out); clear h2 h3)
         | (go_at_call 60; (with_reducible refine Calls.mono HC6.out ?_); rintro e w6 ⟨rfl, ve6, h2, h3⟩; have HP6 := Lib.hid h2; have HS6 := Lib.hid (HS5.out.trans h3); have HG6 := Lib.hid (mkeep (HT5.out.trans h3) HP0.out HG0.out (by decide) (by decide)); have HT6 := Lib.hid (HT5.out.trans h3); clear bx; have bx := cell_of_row _ _ 0 _ _ _ HG6.out; have HC7 := Lib.hid (words_new HP6.out [⟨#[59]⟩] 1 [.string ⟨#[59]⟩] rfl rfl (by decide) (by decide) HX7.out); clear h2 h3)
         | (go_at_call 58; (with_reducible refine Calls.mono HC7.out ?_); rintro e w7 ⟨rfl, ve7, h3⟩; have HS7 := Lib.hid (HS6.out.trans h3); clear h3))
        exact ⟨rfl, rfl, ve7, HS7.out⟩
end Go.Proofs.Ytmjbpgnjgblnmaa
