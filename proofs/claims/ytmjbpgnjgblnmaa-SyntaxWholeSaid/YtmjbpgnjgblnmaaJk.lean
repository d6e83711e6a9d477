/- What the claim stands on: part Jk. -/
import Derived.Test.YtmjbpgnjgblnmaaJf
set_option linter.unusedVariables false
set_option linter.unusedSimpArgs false
namespace Go.Proofs.Ytmjbpgnjgblnmaa
open Go.RowKit Go.Proofs.YtmjbpgnjgblnmaaW.PrintWords Go.Proofs.YtmjbpgnjgblnmaaW.PrintLast Go.Proofs.YtmjbpgnjgblnmaaW.PrintMore
theorem five_no {cc : ByteArray} (h0 : inL cc [⟨#[115, 107, 105, 112]⟩] = false) (h1 : inL cc [⟨#[64, 110, 97, 109, 101]⟩] = false) (h2 : inL cc [⟨#[105, 102]⟩] = false) (h3 : inL cc [⟨#[119, 104, 105, 108, 101]⟩] = false) (h4 : inL cc [⟨#[102, 111, 114]⟩] = false) : inL cc [⟨#[115, 107, 105, 112]⟩, ⟨#[64, 110, 97, 109, 101]⟩, ⟨#[105, 102]⟩, ⟨#[119, 104, 105, 108, 101]⟩, ⟨#[102, 111, 114]⟩] = false := by
 refine inL_no (fun hm => ?_)
 simp only [List.mem_cons, List.not_mem_nil, or_false] at hm
 rcases hm with hm | hm | hm | hm | hm
 ·exact none_of h0 _ List.mem_cons_self hm
 ·exact none_of h1 _ List.mem_cons_self hm
 ·exact none_of h2 _ List.mem_cons_self hm
 ·exact none_of h3 _ List.mem_cons_self hm
 ·exact none_of h4 _ List.mem_cons_self hm
set_option maxRecDepth 100000 in
set_option maxHeartbeats 8000000 in
theorem g_statement (l : List Tk) (N : Nat) (G_statement_1 : GoodC l N 120 [.word ⟨#[115, 107, 105, 112]⟩]) (G_statement_2 : GoodC l N 121 [.rule .r_object, .rule .r_assigned]) (G_choice : Good l N 123 [.word ⟨#[105, 102]⟩, .rule .r_expr, .word ⟨#[116, 104, 101, 110]⟩, .rule .r_body, .rule .r_elses, .word ⟨#[101, 110, 100]⟩]) (G_statement_3 : GoodC l N 124 [.word ⟨#[119, 104, 105, 108, 101]⟩, .rule .r_expr, .word ⟨#[100, 111]⟩, .rule .r_body, .word ⟨#[101, 110, 100]⟩]) (G_statement_4 : GoodC l N 125 [.word ⟨#[102, 111, 114]⟩, .word ⟨#[64, 110, 97, 109, 101]⟩, .word ⟨#[58, 61]⟩, .rule .r_expr, .word ⟨#[116, 111]⟩, .rule .r_expr, .word ⟨#[100, 111]⟩, .rule .r_body, .word ⟨#[101, 110, 100]⟩]) (G_other : ∀ n, n ≤ N + 1 → ∀ (W0 : World) (A : Option Addr) (c : Nat) (w : World) (p i : Nat) (d : Int) (out : List Ev) (ve : Value) (r : SRes), SAt W0 A c l w p i d out ve → srun l n ⟨[.rule .r_statement], i, d, out⟩ = some r → inL (cAt l i) [⟨#[115, 107, 105, 112]⟩, ⟨#[64, 110, 97, 109, 101]⟩, ⟨#[105, 102]⟩, ⟨#[119, 104, 105, 108, 101]⟩, ⟨#[102, 111, 114]⟩] = false → Calls Try.prog 126 #[.pointer (some ⟨p, 0, none⟩)] w (SPost W0 A c l p ve w r)) : Good l (N + 1) 97 [.rule .r_statement] := by
 intro n hn W0 A c w p i d out ve r H hr
 show Calls Try.prog 97 _ w _
 have HNN := Lib.hid hn
 have hr0 : srun l n ⟨[.rule .r_statement], i, d, out⟩ = some r := hr
 skip
 clear hn
 obtain ⟨w0, hw0⟩ : ∃ V, w.alloc (.cells #[.pointer (some ⟨p, 0, none⟩)] 83) = V := ⟨_, rfl⟩
 have hb0 : Below w.heap.size w w0 := by rw [← hw0]; exact (Below.refl _ w).alloc (Nat.le_refl _) _
 have hg : w0.heap[w.heap.size]? = some (.cells #[.pointer (some ⟨p, 0, none⟩)] 83 (0, 0)) := by rw [← hw0]; exact World.alloc_heap_new _ _
 have HWB := Lib.hid hw0
 have HP0 := Lib.hid (H.moved hb0)
 have HS0 := Lib.hid (PStep.below hb0 : MStep p ve w ve w0)
 have HT0 := Lib.hid (PStep.refl p (.slice none 0 0) ve w0)
 obtain ⟨g, hge⟩ : ∃ g, w.heap.size = g := ⟨_, rfl⟩
 rw [hge] at hg
 have HGE := Lib.hid hge
 have HG0 := Lib.hid hg
 have bx := cell_of_row _ _ 0 _ _ _ hg
 clear hw0 hb0 hg hge H
 by_cases hin1' : inL (cAt l i) [⟨#[115, 107, 105, 112]⟩] = true
 ·have hin1 := hin1'
  clear hin1'
  have h2 := hr0
  cases r with
  | ok i2 d2 out2 =>
   have HX2 := Lib.hid h2
   have HI1 := Lib.hid hin1
   have HC1 := Lib.hid ((by have h := is_new HP0.out [⟨#[115, 107, 105, 112]⟩] 1 [.string ⟨#[115, 107, 105, 112]⟩] rfl rfl (by decide) (by decide); rw [HI1.out] at h; exact h))
   clear h2 hin1
   (try clear hr)
   go_enter Try.func97, Try.ntmps97
   go_upto_region 2 with (fail)
   rw [HWB.out, HGE.out]
   go_wp2_with (first
    | (go_at_call 71; (with_reducible refine Calls.mono HC1.out ?_); rintro e w1 ⟨rfl, hb⟩; have h3 : MStep p ve w0 ve w1 := PStep.below hb; have HP1 := Lib.hid (HP0.out.moved hb); have HS1 := Lib.hid (HS0.out.trans h3); have HG1 := Lib.hid (mkeep (HT0.out.trans h3) HP0.out HG0.out (by decide) (by decide)); have HT1 := Lib.hid (HT0.out.trans h3); clear bx; have bx := cell_of_row _ _ 0 _ _ _ HG1.out; have HC2 := Lib.hid (node_rule HP1.out 13 13 rfl (.func (.func 120) #[] #[.pointer (some ⟨g, 0, none⟩)]) 120 (.pointer (some ⟨g, 0, none⟩)) (.inr rfl) (fun w => enters_ Try.func120 (by kernel_rfl) rfl #[(.pointer (some ⟨g, 0, none⟩))] w) (T := [.word ⟨#[115, 107, 105, 112]⟩]) (R := .r_statement) (by rw [one_of HI1.out]; rfl) (G_statement_1.body HP1.out HG1.out) HNN.out HX2.out); clear hb h3)
    | (go_at_call 55; (with_reducible refine Calls.mono HC2.out ?_); rintro e w2 ⟨rfl, ve2, h2, h3⟩; have HP2 := Lib.hid h2; have HS2 := Lib.hid (HS1.out.trans h3); have HG2 := Lib.hid (mkeep (HT1.out.trans h3) HP0.out HG0.out (by decide) (by decide)); have HT2 := Lib.hid (HT1.out.trans h3); clear bx; have bx := cell_of_row _ _ 0 _ _ _ HG2.out; clear h2 h3))
   go_end0
   exact ⟨rfl, ve2, HP2.out, HS2.out⟩
  | err er jj =>
   have HX2 := Lib.hid h2
   have HI1 := Lib.hid hin1
   have HC1 := Lib.hid ((by have h := is_new HP0.out [⟨#[115, 107, 105, 112]⟩] 1 [.string ⟨#[115, 107, 105, 112]⟩] rfl rfl (by decide) (by decide); rw [HI1.out] at h; exact h))
   clear h2 hin1
   (try clear hr)
   go_enter Try.func97, Try.ntmps97
   go_upto_region 2 with (fail)
   rw [HWB.out, HGE.out]
   go_wp2_with (first
    | (go_at_call 71; (with_reducible refine Calls.mono HC1.out ?_); rintro e w1 ⟨rfl, hb⟩; have h3 : MStep p ve w0 ve w1 := PStep.below hb; have HP1 := Lib.hid (HP0.out.moved hb); have HS1 := Lib.hid (HS0.out.trans h3); have HG1 := Lib.hid (mkeep (HT0.out.trans h3) HP0.out HG0.out (by decide) (by decide)); have HT1 := Lib.hid (HT0.out.trans h3); clear bx; have bx := cell_of_row _ _ 0 _ _ _ HG1.out; have HC2 := Lib.hid (node_rule HP1.out 13 13 rfl (.func (.func 120) #[] #[.pointer (some ⟨g, 0, none⟩)]) 120 (.pointer (some ⟨g, 0, none⟩)) (.inr rfl) (fun w => enters_ Try.func120 (by kernel_rfl) rfl #[(.pointer (some ⟨g, 0, none⟩))] w) (T := [.word ⟨#[115, 107, 105, 112]⟩]) (R := .r_statement) (by rw [one_of HI1.out]; rfl) (G_statement_1.body HP1.out HG1.out) HNN.out HX2.out); clear hb h3)
    | (go_at_call 55; (with_reducible refine Calls.mono HC2.out ?_); rintro e w2 ⟨rfl, ve2, h3⟩; have HS2 := Lib.hid (HS1.out.trans h3); clear h3))
   exact ⟨rfl, rfl, ve2, HS2.out⟩
 ·have hin1 : inL (cAt l i) [⟨#[115, 107, 105, 112]⟩] = false := by simpa using hin1'
  clear hin1'
  by_cases hin2' : inL (cAt l i) [⟨#[64, 110, 97, 109, 101]⟩] = true
  ·have hin2 := hin2'
   clear hin2'
   have h3 := hr0
   cases r with
   | ok i3 d3 out3 =>
    have HX3 := Lib.hid h3
    have HI1 := Lib.hid hin1; have HI2 := Lib.hid hin2
    have HC1 := Lib.hid ((by have h := is_new HP0.out [⟨#[115, 107, 105, 112]⟩] 1 [.string ⟨#[115, 107, 105, 112]⟩] rfl rfl (by decide) (by decide); rw [HI1.out] at h; exact h))
    clear h3 hin1 hin2
    (try clear hr)
    go_enter Try.func97, Try.ntmps97
    go_upto_region 2 with (fail)
    rw [HWB.out, HGE.out]
    go_wp2_with (first
     | (go_at_call 71; (with_reducible refine Calls.mono HC1.out ?_); rintro e w1 ⟨rfl, hb⟩; have h3 : MStep p ve w0 ve w1 := PStep.below hb; have HP1 := Lib.hid (HP0.out.moved hb); have HS1 := Lib.hid (HS0.out.trans h3); have HG1 := Lib.hid (mkeep (HT0.out.trans h3) HP0.out HG0.out (by decide) (by decide)); have HT1 := Lib.hid (HT0.out.trans h3); clear bx; have bx := cell_of_row _ _ 0 _ _ _ HG1.out; have HC2 := Lib.hid ((by have h := of_new HP1.out [1] 1 [.int .u8 1] rfl rfl (by decide); rw [of_name] at h; rw [HI2.out] at h; exact h)); clear hb h3)
     | (go_at_call 72; (with_reducible refine Calls.mono HC2.out ?_); rintro e w2 ⟨rfl, hb⟩; have h3 : MStep p ve w1 ve w2 := PStep.below hb; have HP2 := Lib.hid (HP1.out.moved hb); have HS2 := Lib.hid (HS1.out.trans h3); have HG2 := Lib.hid (mkeep (HT1.out.trans h3) HP0.out HG0.out (by decide) (by decide)); have HT2 := Lib.hid (HT1.out.trans h3); clear bx; have bx := cell_of_row _ _ 0 _ _ _ HG2.out; have HC3 := Lib.hid (node_rule HP2.out 14 14 rfl (.func (.func 121) #[] #[.pointer (some ⟨g, 0, none⟩)]) 121 (.pointer (some ⟨g, 0, none⟩)) (.inr rfl) (fun w => enters_ Try.func121 (by kernel_rfl) rfl #[(.pointer (some ⟨g, 0, none⟩))] w) (T := [.rule .r_object, .rule .r_assigned]) (R := .r_statement) (by rw [one_of HI2.out]; rfl) (G_statement_2.body HP2.out HG2.out) HNN.out HX3.out); clear hb h3)
     | (go_at_call 55; (with_reducible refine Calls.mono HC3.out ?_); rintro e w3 ⟨rfl, ve3, h2, h3⟩; have HP3 := Lib.hid h2; have HS3 := Lib.hid (HS2.out.trans h3); have HG3 := Lib.hid (mkeep (HT2.out.trans h3) HP0.out HG0.out (by decide) (by decide)); have HT3 := Lib.hid (HT2.out.trans h3); clear bx; have bx := cell_of_row _ _ 0 _ _ _ HG3.out; clear h2 h3))
    go_end0
    exact ⟨rfl, ve3, HP3.out, HS3.out⟩
   | err er jj =>
    have HX3 := Lib.hid h3
    have HI1 := Lib.hid hin1; have HI2 := Lib.hid hin2
    have HC1 := Lib.hid ((by have h := is_new HP0.out [⟨#[115, 107, 105, 112]⟩] 1 [.string ⟨#[115, 107, 105, 112]⟩] rfl rfl (by decide) (by decide); rw [HI1.out] at h; exact h))
    clear h3 hin1 hin2
    (try clear hr)
    go_enter Try.func97, Try.ntmps97
    go_upto_region 2 with (fail)
    rw [HWB.out, HGE.out]
    go_wp2_with (first
     | (go_at_call 71; (with_reducible refine Calls.mono HC1.out ?_); rintro e w1 ⟨rfl, hb⟩; have h3 : MStep p ve w0 ve w1 := PStep.below hb; have HP1 := Lib.hid (HP0.out.moved hb); have HS1 := Lib.hid (HS0.out.trans h3); have HG1 := Lib.hid (mkeep (HT0.out.trans h3) HP0.out HG0.out (by decide) (by decide)); have HT1 := Lib.hid (HT0.out.trans h3); clear bx; have bx := cell_of_row _ _ 0 _ _ _ HG1.out; have HC2 := Lib.hid ((by have h := of_new HP1.out [1] 1 [.int .u8 1] rfl rfl (by decide); rw [of_name] at h; rw [HI2.out] at h; exact h)); clear hb h3)
     | (go_at_call 72; (with_reducible refine Calls.mono HC2.out ?_); rintro e w2 ⟨rfl, hb⟩; have h3 : MStep p ve w1 ve w2 := PStep.below hb; have HP2 := Lib.hid (HP1.out.moved hb); have HS2 := Lib.hid (HS1.out.trans h3); have HG2 := Lib.hid (mkeep (HT1.out.trans h3) HP0.out HG0.out (by decide) (by decide)); have HT2 := Lib.hid (HT1.out.trans h3); clear bx; have bx := cell_of_row _ _ 0 _ _ _ HG2.out; have HC3 := Lib.hid (node_rule HP2.out 14 14 rfl (.func (.func 121) #[] #[.pointer (some ⟨g, 0, none⟩)]) 121 (.pointer (some ⟨g, 0, none⟩)) (.inr rfl) (fun w => enters_ Try.func121 (by kernel_rfl) rfl #[(.pointer (some ⟨g, 0, none⟩))] w) (T := [.rule .r_object, .rule .r_assigned]) (R := .r_statement) (by rw [one_of HI2.out]; rfl) (G_statement_2.body HP2.out HG2.out) HNN.out HX3.out); clear hb h3)
     | (go_at_call 55; (with_reducible refine Calls.mono HC3.out ?_); rintro e w3 ⟨rfl, ve3, h3⟩; have HS3 := Lib.hid (HS2.out.trans h3); clear h3))
    exact ⟨rfl, rfl, ve3, HS3.out⟩
  ·have hin2 : inL (cAt l i) [⟨#[64, 110, 97, 109, 101]⟩] = false := by simpa using hin2'
   clear hin2'
   by_cases hin3' : inL (cAt l i) [⟨#[105, 102]⟩] = true
   ·have hin3 := hin3'
    clear hin3'
    have h4 := hr0
    cases r with
    | ok i4 d4 out4 =>
     have HX4 := Lib.hid h4
     have HI1 := Lib.hid hin1; have HI2 := Lib.hid hin2; have HI3 := Lib.hid hin3
     have HC1 := Lib.hid ((by have h := is_new HP0.out [⟨#[115, 107, 105, 112]⟩] 1 [.string ⟨#[115, 107, 105, 112]⟩] rfl rfl (by decide) (by decide); rw [HI1.out] at h; exact h))
     clear h4 hin1 hin2 hin3
     (try clear hr)
     go_enter Try.func97, Try.ntmps97
     go_upto_region 2 with (fail)
     rw [HWB.out, HGE.out]
     go_wp2_with (first
      | (go_at_call 71; (with_reducible refine Calls.mono HC1.out ?_); rintro e w1 ⟨rfl, hb⟩; have h3 : MStep p ve w0 ve w1 := PStep.below hb; have HP1 := Lib.hid (HP0.out.moved hb); have HS1 := Lib.hid (HS0.out.trans h3); have HG1 := Lib.hid (mkeep (HT0.out.trans h3) HP0.out HG0.out (by decide) (by decide)); have HT1 := Lib.hid (HT0.out.trans h3); clear bx; have bx := cell_of_row _ _ 0 _ _ _ HG1.out; have HC2 := Lib.hid ((by have h := of_new HP1.out [1] 1 [.int .u8 1] rfl rfl (by decide); rw [of_name] at h; rw [HI2.out] at h; exact h)); clear hb h3)
      | (go_at_call 72; (with_reducible refine Calls.mono HC2.out ?_); rintro e w2 ⟨rfl, hb⟩; have h3 : MStep p ve w1 ve w2 := PStep.below hb; have HP2 := Lib.hid (HP1.out.moved hb); have HS2 := Lib.hid (HS1.out.trans h3); have HG2 := Lib.hid (mkeep (HT1.out.trans h3) HP0.out HG0.out (by decide) (by decide)); have HT2 := Lib.hid (HT1.out.trans h3); clear bx; have bx := cell_of_row _ _ 0 _ _ _ HG2.out; have HC3 := Lib.hid ((by have h := is_new HP2.out [⟨#[105, 102]⟩] 1 [.string ⟨#[105, 102]⟩] rfl rfl (by decide) (by decide); rw [HI3.out] at h; exact h)); clear hb h3)
      | (go_at_call 71; (with_reducible refine Calls.mono HC3.out ?_); rintro e w3 ⟨rfl, hb⟩; have h3 : MStep p ve w2 ve w3 := PStep.below hb; have HP3 := Lib.hid (HP2.out.moved hb); have HS3 := Lib.hid (HS2.out.trans h3); have HG3 := Lib.hid (mkeep (HT2.out.trans h3) HP0.out HG0.out (by decide) (by decide)); have HT3 := Lib.hid (HT2.out.trans h3); clear bx; have bx := cell_of_row _ _ 0 _ _ _ HG3.out; have HC4 := Lib.hid (node_rule HP3.out 15 15 rfl (.func (.func 123) #[.pointer (some ⟨p, 0, none⟩)] #[]) 123 (.pointer (some ⟨p, 0, none⟩)) (.inl rfl) (fun w => enters_ Try.func123 (by kernel_rfl) rfl #[(.pointer (some ⟨p, 0, none⟩))] w) (T := [.word ⟨#[105, 102]⟩, .rule .r_expr, .word ⟨#[116, 104, 101, 110]⟩, .rule .r_body, .rule .r_elses, .word ⟨#[101, 110, 100]⟩]) (R := .r_statement) (by rw [one_of HI3.out]; rfl) (G_choice.body) HNN.out HX4.out); clear hb h3)
      | (go_at_call 55; (with_reducible refine Calls.mono HC4.out ?_); rintro e w4 ⟨rfl, ve4, h2, h3⟩; have HP4 := Lib.hid h2; have HS4 := Lib.hid (HS3.out.trans h3); have HG4 := Lib.hid (mkeep (HT3.out.trans h3) HP0.out HG0.out (by decide) (by decide)); have HT4 := Lib.hid (HT3.out.trans h3); clear bx; have bx := cell_of_row _ _ 0 _ _ _ HG4.out; clear h2 h3))
     go_end0
     exact ⟨rfl, ve4, HP4.out, HS4.out⟩
    | err er jj =>
     have HX4 := Lib.hid h4
     have HI1 := Lib.hid hin1; have HI2 := Lib.hid hin2; have HI3 := Lib.hid hin3
     have HC1 := Lib.hid ((by have h := is_new HP0.out [⟨#[115, 107, 105, 112]⟩] 1 [.string ⟨#[115, 107, 105, 112]⟩] rfl rfl (by decide) (by decide); rw [HI1.out] at h; exact h))
     clear h4 hin1 hin2 hin3
     (try clear hr)
     go_enter Try.func97, Try.ntmps97
     go_upto_region 2 with (fail)
     rw [HWB.out, HGE.out]
     go_wp2_with (first
      | (go_at_call 71; (with_reducible refine Calls.mono HC1.out ?_); rintro e w1 ⟨rfl, hb⟩; have h3 : MStep p ve w0 ve w1 := PStep.below hb; have HP1 := Lib.hid (HP0.out.moved hb); have HS1 := Lib.hid (HS0.out.trans h3); have HG1 := Lib.hid (mkeep (HT0.out.trans h3) HP0.out HG0.out (by decide) (by decide)); have HT1 := Lib.hid (HT0.out.trans h3); clear bx; have bx := cell_of_row _ _ 0 _ _ _ HG1.out; have HC2 := Lib.hid ((by have h := of_new HP1.out [1] 1 [.int .u8 1] rfl rfl (by decide); rw [of_name] at h; rw [HI2.out] at h; exact h)); clear hb h3)
      | (go_at_call 72; (with_reducible refine Calls.mono HC2.out ?_); rintro e w2 ⟨rfl, hb⟩; have h3 : MStep p ve w1 ve w2 := PStep.below hb; have HP2 := Lib.hid (HP1.out.moved hb); have HS2 := Lib.hid (HS1.out.trans h3); have HG2 := Lib.hid (mkeep (HT1.out.trans h3) HP0.out HG0.out (by decide) (by decide)); have HT2 := Lib.hid (HT1.out.trans h3); clear bx; have bx := cell_of_row _ _ 0 _ _ _ HG2.out; have HC3 := Lib.hid ((by have h := is_new HP2.out [⟨#[105, 102]⟩] 1 [.string ⟨#[105, 102]⟩] rfl rfl (by decide) (by decide); rw [HI3.out] at h; exact h)); clear hb h3)
      | (go_at_call 71; (with_reducible refine Calls.mono HC3.out ?_); rintro e w3 ⟨rfl, hb⟩; have h3 : MStep p ve w2 ve w3 := PStep.below hb; have HP3 := Lib.hid (HP2.out.moved hb); have HS3 := Lib.hid (HS2.out.trans h3); have HG3 := Lib.hid (mkeep (HT2.out.trans h3) HP0.out HG0.out (by decide) (by decide)); have HT3 := Lib.hid (HT2.out.trans h3); clear bx; have bx := cell_of_row _ _ 0 _ _ _ HG3.out; have HC4 := Lib.hid (node_rule HP3.out 15 15 rfl (.func (.func 123) #[.pointer (some ⟨p, 0, none⟩)] #[]) 123 (.pointer (some ⟨p, 0, none⟩)) (.inl rfl) (fun w => enters_ Try.func123 (by kernel_rfl) rfl #[(.pointer (some ⟨p, 0, none⟩))] w) (T := [.word ⟨#[105, 102]⟩, .rule .r_expr, .word ⟨#[116, 104, 101, 110]⟩, .rule .r_body, .rule .r_elses, .word ⟨#[101, 110, 100]⟩]) (R := .r_statement) (by rw [one_of HI3.out]; rfl) (G_choice.body) HNN.out HX4.out); clear hb h3)
      | (go_at_call 55; (with_reducible refine Calls.mono HC4.out ?_); rintro e w4 ⟨rfl, ve4, h3⟩; have HS4 := Lib.hid (HS3.out.trans h3); clear h3))
     exact ⟨rfl, rfl, ve4, HS4.out⟩
   ·have hin3 : inL (cAt l i) [⟨#[105, 102]⟩] = false := by simpa using hin3'
    clear hin3'
    by_cases hin4' : inL (cAt l i) [⟨#[119, 104, 105, 108, 101]⟩] = true
    ·have hin4 := hin4'
     clear hin4'
     have h5 := hr0
     cases r with
     | ok i5 d5 out5 =>
      have HX5 := Lib.hid h5
      have HI1 := Lib.hid hin1; have HI2 := Lib.hid hin2; have HI3 := Lib.hid hin3; have HI4 := Lib.hid hin4
      have HC1 := Lib.hid ((by have h := is_new HP0.out [⟨#[115, 107, 105, 112]⟩] 1 [.string ⟨#[115, 107, 105, 112]⟩] rfl rfl (by decide) (by decide); rw [HI1.out] at h; exact h))
      clear h5 hin1 hin2 hin3 hin4
      (try clear hr)
      go_enter Try.func97, Try.ntmps97
      go_upto_region 2 with (fail)
      rw [HWB.out, HGE.out]
      go_wp2_with (first
       | (go_at_call 71; (with_reducible refine Calls.mono HC1.out ?_); rintro e w1 ⟨rfl, hb⟩; have h3 : MStep p ve w0 ve w1 := PStep.below hb; have HP1 := Lib.hid (HP0.out.moved hb); have HS1 := Lib.hid (HS0.out.trans h3); have HG1 := Lib.hid (mkeep (HT0.out.trans h3) HP0.out HG0.out (by decide) (by decide)); have HT1 := Lib.hid (HT0.out.trans h3); clear bx; have bx := cell_of_row _ _ 0 _ _ _ HG1.out; have HC2 := Lib.hid ((by have h := of_new HP1.out [1] 1 [.int .u8 1] rfl rfl (by decide); rw [of_name] at h; rw [HI2.out] at h; exact h)); clear hb h3)
       | (go_at_call 72; (with_reducible refine Calls.mono HC2.out ?_); rintro e w2 ⟨rfl, hb⟩; have h3 : MStep p ve w1 ve w2 := PStep.below hb; have HP2 := Lib.hid (HP1.out.moved hb); have HS2 := Lib.hid (HS1.out.trans h3); have HG2 := Lib.hid (mkeep (HT1.out.trans h3) HP0.out HG0.out (by decide) (by decide)); have HT2 := Lib.hid (HT1.out.trans h3); clear bx; have bx := cell_of_row _ _ 0 _ _ _ HG2.out; have HC3 := Lib.hid ((by have h := is_new HP2.out [⟨#[105, 102]⟩] 1 [.string ⟨#[105, 102]⟩] rfl rfl (by decide) (by decide); rw [HI3.out] at h; exact h)); clear hb h3)
       | (go_at_call 71; (with_reducible refine Calls.mono HC3.out ?_); rintro e w3 ⟨rfl, hb⟩; have h3 : MStep p ve w2 ve w3 := PStep.below hb; have HP3 := Lib.hid (HP2.out.moved hb); have HS3 := Lib.hid (HS2.out.trans h3); have HG3 := Lib.hid (mkeep (HT2.out.trans h3) HP0.out HG0.out (by decide) (by decide)); have HT3 := Lib.hid (HT2.out.trans h3); clear bx; have bx := cell_of_row _ _ 0 _ _ _ HG3.out; have HC4 := Lib.hid ((by have h := is_new HP3.out [⟨#[119, 104, 105, 108, 101]⟩] 1 [.string ⟨#[119, 104, 105, 108, 101]⟩] rfl rfl (by decide) (by decide); rw [HI4.out] at h; exact h)); clear hb h3)
       | (go_at_call 71; (with_reducible refine Calls.mono HC4.out ?_); rintro e w4 ⟨rfl, hb⟩; have h3 : MStep p ve w3 ve w4 := PStep.below hb; have HP4 := Lib.hid (HP3.out.moved hb); have HS4 := Lib.hid (HS3.out.trans h3); have HG4 := Lib.hid (mkeep (HT3.out.trans h3) HP0.out HG0.out (by decide) (by decide)); have HT4 := Lib.hid (HT3.out.trans h3); clear bx; have bx := cell_of_row _ _ 0 _ _ _ HG4.out; have HC5 := Lib.hid (node_rule HP4.out 16 16 rfl (.func (.func 124) #[] #[.pointer (some ⟨g, 0, none⟩)]) 124 (.pointer (some ⟨g, 0, none⟩)) (.inr rfl) (fun w => enters_ Try.func124 (by kernel_rfl) rfl #[(.pointer (some ⟨g, 0, none⟩))] w) (T := [.word ⟨#[119, 104, 105, 108, 101]⟩, .rule .r_expr, .word ⟨#[100, 111]⟩, .rule .r_body, .word ⟨#[101, 110, 100]⟩]) (R := .r_statement) (by rw [one_of HI4.out]; rfl) (G_statement_3.body HP4.out HG4.out) HNN.out HX5.out); clear hb h3)
       | (go_at_call 55; (with_reducible refine Calls.mono HC5.out ?_); rintro e w5 ⟨rfl, ve5, h2, h3⟩; have HP5 := Lib.hid h2; have HS5 := Lib.hid (HS4.out.trans h3); have HG5 := Lib.hid (mkeep (HT4.out.trans h3) HP0.out HG0.out (by decide) (by decide)); have HT5 := Lib.hid (HT4.out.trans h3); clear bx; have bx := cell_of_row _ _ 0 _ _ _ HG5.out; clear h2 h3))
      go_end0
      exact ⟨rfl, ve5, HP5.out, HS5.out⟩
     | err er jj =>
      have HX5 := Lib.hid h5
      have HI1 := Lib.hid hin1; have HI2 := Lib.hid hin2; have HI3 := Lib.hid hin3; have HI4 := Lib.hid hin4
      have HC1 := Lib.hid ((by have h := is_new HP0.out [⟨#[115, 107, 105, 112]⟩] 1 [.string ⟨#[115, 107, 105, 112]⟩] rfl rfl (by decide) (by decide); rw [HI1.out] at h; exact h))
      clear h5 hin1 hin2 hin3 hin4
      (try clear hr)
      go_enter Try.func97, Try.ntmps97
      go_upto_region 2 with (fail)
      rw [HWB.out, HGE.out]
      go_wp2_with (first
       | (go_at_call 71; (with_reducible refine Calls.mono HC1.out ?_); rintro e w1 ⟨rfl, hb⟩; have h3 : MStep p ve w0 ve w1 := PStep.below hb; have HP1 := Lib.hid (HP0.out.moved hb); have HS1 := Lib.hid (HS0.out.trans h3); have HG1 := Lib.hid (mkeep (HT0.out.trans h3) HP0.out HG0.out (by decide) (by decide)); have HT1 := Lib.hid (HT0.out.trans h3); clear bx; have bx := cell_of_row _ _ 0 _ _ _ HG1.out; have HC2 := Lib.hid ((by have h := of_new HP1.out [1] 1 [.int .u8 1] rfl rfl (by decide); rw [of_name] at h; rw [HI2.out] at h; exact h)); clear hb h3)
       | (go_at_call 72; (with_reducible refine Calls.mono HC2.out ?_); rintro e w2 ⟨rfl, hb⟩; have h3 : MStep p ve w1 ve w2 := PStep.below hb; have HP2 := Lib.hid (HP1.out.moved hb); have HS2 := Lib.hid (HS1.out.trans h3); have HG2 := Lib.hid (mkeep (HT1.out.trans h3) HP0.out HG0.out (by decide) (by decide)); have HT2 := Lib.hid (HT1.out.trans h3); clear bx; have bx := cell_of_row _ _ 0 _ _ _ HG2.out; have HC3 := Lib.hid ((by have h := is_new HP2.out [⟨#[105, 102]⟩] 1 [.string ⟨#[105, 102]⟩] rfl rfl (by decide) (by decide); rw [HI3.out] at h; exact h)); clear hb h3)
       | (go_at_call 71; (with_reducible refine Calls.mono HC3.out ?_); rintro e w3 ⟨rfl, hb⟩; have h3 : MStep p ve w2 ve w3 := PStep.below hb; have HP3 := Lib.hid (HP2.out.moved hb); have HS3 := Lib.hid (HS2.out.trans h3); have HG3 := Lib.hid (mkeep (HT2.out.trans h3) HP0.out HG0.out (by decide) (by decide)); have HT3 := Lib.hid (HT2.out.trans h3); clear bx; have bx := cell_of_row _ _ 0 _ _ _ HG3.out; have HC4 := Lib.hid ((by have h := is_new HP3.out [⟨#[119, 104, 105, 108, 101]⟩] 1 [.string ⟨#[119, 104, 105, 108, 101]⟩] rfl rfl (by decide) (by decide); rw [HI4.out] at h; exact h)); clear hb h3)
       | (go_at_call 71; (with_reducible refine Calls.mono HC4.out ?_); rintro e w4 ⟨rfl, hb⟩; have h3 : MStep p ve w3 ve w4 := PStep.below hb; have HP4 := Lib.hid (HP3.out.moved hb); have HS4 := Lib.hid (HS3.out.trans h3); have HG4 := Lib.hid (mkeep (HT3.out.trans h3) HP0.out HG0.out (by decide) (by decide)); have HT4 := Lib.hid (HT3.out.trans h3); clear bx; have bx := cell_of_row _ _ 0 _ _ _ HG4.out; have HC5 := Lib.hid (node_rule HP4.out 16 16 rfl (.func (.func 124) #[] #[.pointer (some ⟨g, 0, none⟩)]) 124 (.pointer (some ⟨g, 0, none⟩)) (.inr rfl) (fun w => enters_ Try.func124 (by kernel_rfl) rfl #[(.pointer (some ⟨g, 0, none⟩))] w) (T := [.word ⟨#[119, 104, 105, 108, 101]⟩, .rule .r_expr, .word ⟨#[100, 111]⟩, .rule .r_body, .word ⟨#[101, 110, 100]⟩]) (R := .r_statement) (by rw [one_of HI4.out]; rfl) (G_statement_3.body HP4.out HG4.out) HNN.out HX5.out); clear hb h3)
       | (go_at_call 55; (with_reducible refine Calls.mono HC5.out ?_); rintro e w5 ⟨rfl, ve5, h3⟩; have HS5 := Lib.hid (HS4.out.trans h3); clear h3))
      exact ⟨rfl, rfl, ve5, HS5.out⟩
    ·have hin4 : inL (cAt l i) [⟨#[119, 104, 105, 108, 101]⟩] = false := by simpa using hin4'
     clear hin4'
     by_cases hin5' : inL (cAt l i) [⟨#[102, 111, 114]⟩] = true
     ·have hin5 := hin5'
      clear hin5'
      have h6 := hr0
      cases r with
      | ok i6 d6 out6 =>
       have HX6 := Lib.hid h6
       have HI1 := Lib.hid hin1; have HI2 := Lib.hid hin2; have HI3 := Lib.hid hin3; have HI4 := Lib.hid hin4; have HI5 := Lib.hid hin5
       have HC1 := Lib.hid ((by have h := is_new HP0.out [⟨#[115, 107, 105, 112]⟩] 1 [.string ⟨#[115, 107, 105, 112]⟩] rfl rfl (by decide) (by decide); rw [HI1.out] at h; exact h))
       clear h6 hin1 hin2 hin3 hin4 hin5
       (try clear hr)
       go_enter Try.func97, Try.ntmps97
       go_upto_region 2 with (fail)
       rw [HWB.out, HGE.out]
       go_wp2_with (first
        | (go_at_call 71; (with_reducible refine Calls.mono HC1.out ?_); rintro e w1 ⟨rfl, hb⟩; have h3 : MStep p ve w0 ve w1 := PStep.below hb; have HP1 := Lib.hid (HP0.out.moved hb); have HS1 := Lib.hid (HS0.out.trans h3); have HG1 := Lib.hid (mkeep (HT0.out.trans h3) HP0.out HG0.out (by decide) (by decide)); have HT1 := Lib.hid (HT0.out.trans h3); clear bx; have bx := cell_of_row _ _ 0 _ _ _ HG1.out; have HC2 := Lib.hid ((by have h := of_new HP1.out [1] 1 [.int .u8 1] rfl rfl (by decide); rw [of_name] at h; rw [HI2.out] at h; exact h)); clear hb h3)
        | (go_at_call 72; (with_reducible refine Calls.mono HC2.out ?_); rintro e w2 ⟨rfl, hb⟩; have h3 : MStep p ve w1 ve w2 := PStep.below hb; have HP2 := Lib.hid (HP1.out.moved hb); have HS2 := Lib.hid (HS1.out.trans h3); have HG2 := Lib.hid (mkeep (HT1.out.trans h3) HP0.out HG0.out (by decide) (by decide)); have HT2 := Lib.hid (HT1.out.trans h3); clear bx; have bx := cell_of_row _ _ 0 _ _ _ HG2.out; have HC3 := Lib.hid ((by have h := is_new HP2.out [⟨#[105, 102]⟩] 1 [.string ⟨#[105, 102]⟩] rfl rfl (by decide) (by decide); rw [HI3.out] at h; exact h)); clear hb h3)
        | (go_at_call 71; (with_reducible refine Calls.mono HC3.out ?_); rintro e w3 ⟨rfl, hb⟩; have h3 : MStep p ve w2 ve w3 := PStep.below hb; have HP3 := Lib.hid (HP2.out.moved hb); have HS3 := Lib.hid (HS2.out.trans h3); have HG3 := Lib.hid (mkeep (HT2.out.trans h3) HP0.out HG0.out (by decide) (by decide)); have HT3 := Lib.hid (HT2.out.trans h3); clear bx; have bx := cell_of_row _ _ 0 _ _ _ HG3.out; have HC4 := Lib.hid ((by have h := is_new HP3.out [⟨#[119, 104, 105, 108, 101]⟩] 1 [.string ⟨#[119, 104, 105, 108, 101]⟩] rfl rfl (by decide) (by decide); rw [HI4.out] at h; exact h)); clear hb h3)
        | (go_at_call 71; (with_reducible refine Calls.mono HC4.out ?_); rintro e w4 ⟨rfl, hb⟩; have h3 : MStep p ve w3 ve w4 := PStep.below hb; have HP4 := Lib.hid (HP3.out.moved hb); have HS4 := Lib.hid (HS3.out.trans h3); have HG4 := Lib.hid (mkeep (HT3.out.trans h3) HP0.out HG0.out (by decide) (by decide)); have HT4 := Lib.hid (HT3.out.trans h3); clear bx; have bx := cell_of_row _ _ 0 _ _ _ HG4.out; have HC5 := Lib.hid ((by have h := is_new HP4.out [⟨#[102, 111, 114]⟩] 1 [.string ⟨#[102, 111, 114]⟩] rfl rfl (by decide) (by decide); rw [HI5.out] at h; exact h)); clear hb h3)
        | (go_at_call 71; (with_reducible refine Calls.mono HC5.out ?_); rintro e w5 ⟨rfl, hb⟩; have h3 : MStep p ve w4 ve w5 := PStep.below hb; have HP5 := Lib.hid (HP4.out.moved hb); have HS5 := Lib.hid (HS4.out.trans h3); have HG5 := Lib.hid (mkeep (HT4.out.trans h3) HP0.out HG0.out (by decide) (by decide)); have HT5 := Lib.hid (HT4.out.trans h3); clear bx; have bx := cell_of_row _ _ 0 _ _ _ HG5.out; have HC6 := Lib.hid (node_rule HP5.out 17 17 rfl (.func (.func 125) #[] #[.pointer (some ⟨g, 0, none⟩)]) 125 (.pointer (some ⟨g, 0, none⟩)) (.inr rfl) (fun w => enters_ Try.func125 (by kernel_rfl) rfl #[(.pointer (some ⟨g, 0, none⟩))] w) (T := [.word ⟨#[102, 111, 114]⟩, .word ⟨#[64, 110, 97, 109, 101]⟩, .word ⟨#[58, 61]⟩, .rule .r_expr, .word ⟨#[116, 111]⟩, .rule .r_expr, .word ⟨#[100, 111]⟩, .rule .r_body, .word ⟨#[101, 110, 100]⟩]) (R := .r_statement) (by rw [one_of HI5.out]; rfl) (G_statement_4.body HP5.out HG5.out) HNN.out HX6.out); clear hb h3)
        | (go_at_call 55; (with_reducible refine Calls.mono HC6.out ?_); rintro e w6 ⟨rfl, ve6, h2, h3⟩; have HP6 := Lib.hid h2; have HS6 := Lib.hid (HS5.out.trans h3); have HG6 := Lib.hid (mkeep (HT5.out.trans h3) HP0.out HG0.out (by decide) (by decide)); have HT6 := Lib.hid (HT5.out.trans h3); clear bx; have bx := cell_of_row _ _ 0 _ _ _ HG6.out; clear h2 h3))
       go_end0
       exact ⟨rfl, ve6, HP6.out, HS6.out⟩
      | err er jj =>
       have HX6 := Lib.hid h6
       have HI1 := Lib.hid hin1; have HI2 := Lib.hid hin2; have HI3 := Lib.hid hin3; have HI4 := Lib.hid hin4; have HI5 := Lib.hid hin5
       have HC1 := Lib.hid ((by have h := is_new HP0.out [⟨#[115, 107, 105, 112]⟩] 1 [.string ⟨#[115, 107, 105, 112]⟩] rfl rfl (by decide) (by decide); rw [HI1.out] at h; exact h))
       clear h6 hin1 hin2 hin3 hin4 hin5
       (try clear hr)
       go_enter Try.func97, Try.ntmps97
       go_upto_region 2 with (fail)
       rw [HWB.out, HGE.out]
       go_wp2_with (first
        | (go_at_call 71; (with_reducible refine Calls.mono HC1.out ?_); rintro e w1 ⟨rfl, hb⟩; have h3 : MStep p ve w0 ve w1 := PStep.below hb; have HP1 := Lib.hid (HP0.out.moved hb); have HS1 := Lib.hid (HS0.out.trans h3); have HG1 := Lib.hid (mkeep (HT0.out.trans h3) HP0.out HG0.out (by decide) (by decide)); have HT1 := Lib.hid (HT0.out.trans h3); clear bx; have bx := cell_of_row _ _ 0 _ _ _ HG1.out; have HC2 := Lib.hid ((by have h := of_new HP1.out [1] 1 [.int .u8 1] rfl rfl (by decide); rw [of_name] at h; rw [HI2.out] at h; exact h)); clear hb h3)
        | (go_at_call 72; (with_reducible refine Calls.mono HC2.out ?_); rintro e w2 ⟨rfl, hb⟩; have h3 : MStep p ve w1 ve w2 := PStep.below hb; have HP2 := Lib.hid (HP1.out.moved hb); have HS2 := Lib.hid (HS1.out.trans h3); have HG2 := Lib.hid (mkeep (HT1.out.trans h3) HP0.out HG0.out (by decide) (by decide)); have HT2 := Lib.hid (HT1.out.trans h3); clear bx; have bx := cell_of_row _ _ 0 _ _ _ HG2.out; have HC3 := Lib.hid ((by have h := is_new HP2.out [⟨#[105, 102]⟩] 1 [.string ⟨#[105, 102]⟩] rfl rfl (by decide) (by decide); rw [HI3.out] at h; exact h)); clear hb h3)
        | (go_at_call 71; (with_reducible refine Calls.mono HC3.out ?_); rintro e w3 ⟨rfl, hb⟩; have h3 : MStep p ve w2 ve w3 := PStep.below hb; have HP3 := Lib.hid (HP2.out.moved hb); have HS3 := Lib.hid (HS2.out.trans h3); have HG3 := Lib.hid (mkeep (HT2.out.trans h3) HP0.out HG0.out (by decide) (by decide)); have HT3 := Lib.hid (HT2.out.trans h3); clear bx; have bx := cell_of_row _ _ 0 _ _ _ HG3.out; have HC4 := Lib.hid ((by have h := is_new HP3.out [⟨#[119, 104, 105, 108, 101]⟩] 1 [.string ⟨#[119, 104, 105, 108, 101]⟩] rfl rfl (by decide) (by decide); rw [HI4.out] at h; exact h)); clear hb h3)
        | (go_at_call 71; (with_reducible refine Calls.mono HC4.out ?_); rintro e w4 ⟨rfl, hb⟩; have h3 : MStep p ve w3 ve w4 := PStep.below hb; have HP4 := Lib.hid (HP3.out.moved hb); have HS4 := Lib.hid (HS3.out.trans h3); have HG4 := Lib.hid (mkeep (HT3.out.trans h3) HP0.out HG0.out (by decide) (by decide)); have HT4 := Lib.hid (HT3.out.trans h3); clear bx; have bx := cell_of_row _ _ 0 _ _ _ HG4.out; have HC5 := Lib.hid ((by have h := is_new HP4.out [⟨#[102, 111, 114]⟩] 1 [.string ⟨#[102, 111, 114]⟩] rfl rfl (by decide) (by decide); rw [HI5.out] at h; exact h)); clear hb h3)
        | (go_at_call 71; (with_reducible refine Calls.mono HC5.out ?_); rintro e w5 ⟨rfl, hb⟩; have h3 : MStep p ve w4 ve w5 := PStep.below hb; have HP5 := Lib.hid (HP4.out.moved hb); have HS5 := Lib.hid (HS4.out.trans h3); have HG5 := Lib.hid (mkeep (HT4.out.trans h3) HP0.out HG0.out (by decide) (by decide)); have HT5 := Lib.hid (HT4.out.trans h3); clear bx; have bx := cell_of_row _ _ 0 _ _ _ HG5.out; have HC6 := Lib.hid (node_rule HP5.out 17 17 rfl (.func (.func 125) #[] #[.pointer (some ⟨g, 0, none⟩)]) 125 (.pointer (some ⟨g, 0, none⟩)) (.inr rfl) (fun w => enters_ Try.func125 (by kernel_rfl) rfl #[(.pointer (some ⟨g, 0, none⟩))] w) (T := [.word ⟨#[102, 111, 114]⟩, .word ⟨#[64, 110, 97, 109, 101]⟩, .word ⟨#[58, 61]⟩, .rule .r_expr, .word ⟨#[116, 111]⟩, .rule .r_expr, .word ⟨#[100, 111]⟩, .rule .r_body, .word ⟨#[101, 110, 100]⟩]) (R := .r_statement) (by rw [one_of HI5.out]; rfl) (G_statement_4.body HP5.out HG5.out) HNN.out HX6.out); clear hb h3)
        | (go_at_call 55; (with_reducible refine Calls.mono HC6.out ?_); rintro e w6 ⟨rfl, ve6, h3⟩; have HS6 := Lib.hid (HS5.out.trans h3); clear h3))
       exact ⟨rfl, rfl, ve6, HS6.out⟩
     ·have hin5 : inL (cAt l i) [⟨#[102, 111, 114]⟩] = false := by simpa using hin5'
      clear hin5'
      have h6 := hr0
      cases r with
      | ok i6 d6 out6 =>
       have HX6 := Lib.hid h6
       have HI1 := Lib.hid hin1; have HI2 := Lib.hid hin2; have HI3 := Lib.hid hin3; have HI4 := Lib.hid hin4; have HI5 := Lib.hid hin5
       have HC1 := Lib.hid ((by have h := is_new HP0.out [⟨#[115, 107, 105, 112]⟩] 1 [.string ⟨#[115, 107, 105, 112]⟩] rfl rfl (by decide) (by decide); rw [HI1.out] at h; exact h))
       clear h6 hin1 hin2 hin3 hin4 hin5
       (try clear hr)
       go_enter Try.func97, Try.ntmps97
       go_upto_region 2 with (fail)
       rw [HWB.out, HGE.out]
       go_wp2_with (first
        | (go_at_call 71; (with_reducible refine Calls.mono HC1.out ?_); rintro e w1 ⟨rfl, hb⟩; have h3 : MStep p ve w0 ve w1 := PStep.below hb; have HP1 := Lib.hid (HP0.out.moved hb); have HS1 := Lib.hid (HS0.out.trans h3); have HG1 := Lib.hid (mkeep (HT0.out.trans h3) HP0.out HG0.out (by decide) (by decide)); have HT1 := Lib.hid (HT0.out.trans h3); clear bx; have bx := cell_of_row _ _ 0 _ _ _ HG1.out; have HC2 := Lib.hid ((by have h := of_new HP1.out [1] 1 [.int .u8 1] rfl rfl (by decide); rw [of_name] at h; rw [HI2.out] at h; exact h)); clear hb h3)
        | (go_at_call 72; (with_reducible refine Calls.mono HC2.out ?_); rintro e w2 ⟨rfl, hb⟩; have h3 : MStep p ve w1 ve w2 := PStep.below hb; have HP2 := Lib.hid (HP1.out.moved hb); have HS2 := Lib.hid (HS1.out.trans h3); have HG2 := Lib.hid (mkeep (HT1.out.trans h3) HP0.out HG0.out (by decide) (by decide)); have HT2 := Lib.hid (HT1.out.trans h3); clear bx; have bx := cell_of_row _ _ 0 _ _ _ HG2.out; have HC3 := Lib.hid ((by have h := is_new HP2.out [⟨#[105, 102]⟩] 1 [.string ⟨#[105, 102]⟩] rfl rfl (by decide) (by decide); rw [HI3.out] at h; exact h)); clear hb h3)
        | (go_at_call 71; (with_reducible refine Calls.mono HC3.out ?_); rintro e w3 ⟨rfl, hb⟩; have h3 : MStep p ve w2 ve w3 := PStep.below hb; have HP3 := Lib.hid (HP2.out.moved hb); have HS3 := Lib.hid (HS2.out.trans h3); have HG3 := Lib.hid (mkeep (HT2.out.trans h3) HP0.out HG0.out (by decide) (by decide)); have HT3 := Lib.hid (HT2.out.trans h3); clear bx; have bx := cell_of_row _ _ 0 _ _ _ HG3.out; have HC4 := Lib.hid ((by have h := is_new HP3.out [⟨#[119, 104, 105, 108, 101]⟩] 1 [.string ⟨#[119, 104, 105, 108, 101]⟩] rfl rfl (by decide) (by decide); rw [HI4.out] at h; exact h)); clear hb h3)
        | (go_at_call 71; (with_reducible refine Calls.mono HC4.out ?_); rintro e w4 ⟨rfl, hb⟩; have h3 : MStep p ve w3 ve w4 := PStep.below hb; have HP4 := Lib.hid (HP3.out.moved hb); have HS4 := Lib.hid (HS3.out.trans h3); have HG4 := Lib.hid (mkeep (HT3.out.trans h3) HP0.out HG0.out (by decide) (by decide)); have HT4 := Lib.hid (HT3.out.trans h3); clear bx; have bx := cell_of_row _ _ 0 _ _ _ HG4.out; have HC5 := Lib.hid ((by have h := is_new HP4.out [⟨#[102, 111, 114]⟩] 1 [.string ⟨#[102, 111, 114]⟩] rfl rfl (by decide) (by decide); rw [HI5.out] at h; exact h)); clear hb h3)
        | (go_at_call 71; (with_reducible refine Calls.mono HC5.out ?_); rintro e w5 ⟨rfl, hb⟩; have h3 : MStep p ve w4 ve w5 := PStep.below hb; have HP5 := Lib.hid (HP4.out.moved hb); have HS5 := Lib.hid (HS4.out.trans h3); have HG5 := Lib.hid (mkeep (HT4.out.trans h3) HP0.out HG0.out (by decide) (by decide)); have HT5 := Lib.hid (HT4.out.trans h3); clear bx; have bx := cell_of_row _ _ 0 _ _ _ HG5.out; have HC6 := Lib.hid (G_other n HNN.out W0 A c w5 p i d out ve _ HP5.out HX6.out (five_no HI1.out HI2.out HI3.out HI4.out HI5.out)); clear hb h3)
        | (go_at_call 126; (with_reducible refine Calls.mono HC6.out ?_); rintro e w6 ⟨rfl, ve6, h2, h3⟩; have HP6 := Lib.hid h2; have HS6 := Lib.hid (HS5.out.trans h3); have HG6 := Lib.hid (mkeep (HT5.out.trans h3) HP0.out HG0.out (by decide) (by decide)); have HT6 := Lib.hid (HT5.out.trans h3); clear bx; have bx := cell_of_row _ _ 0 _ _ _ HG6.out; clear h2 h3))
       go_end0
       exact ⟨rfl, ve6, HP6.out, HS6.out⟩
      | err er jj =>
       have HX6 := Lib.hid h6
       have HI1 := Lib.hid hin1; have HI2 := Lib.hid hin2; have HI3 := Lib.hid hin3; have HI4 := Lib.hid hin4; have HI5 := Lib.hid hin5
       have HC1 := Lib.hid ((by have h := is_new HP0.out [⟨#[115, 107, 105, 112]⟩] 1 [.string ⟨#[115, 107, 105, 112]⟩] rfl rfl (by decide) (by decide); rw [HI1.out] at h; exact h))
       clear h6 hin1 hin2 hin3 hin4 hin5
       (try clear hr)
       go_enter Try.func97, Try.ntmps97
       go_upto_region 2 with (fail)
       rw [HWB.out, HGE.out]
       go_wp2_with (first
        | (go_at_call 71; (with_reducible refine Calls.mono HC1.out ?_); rintro e w1 ⟨rfl, hb⟩; have h3 : MStep p ve w0 ve w1 := PStep.below hb; have HP1 := Lib.hid (HP0.out.moved hb); have HS1 := Lib.hid (HS0.out.trans h3); have HG1 := Lib.hid (mkeep (HT0.out.trans h3) HP0.out HG0.out (by decide) (by decide)); have HT1 := Lib.hid (HT0.out.trans h3); clear bx; have bx := cell_of_row _ _ 0 _ _ _ HG1.out; have HC2 := Lib.hid ((by have h := of_new HP1.out [1] 1 [.int .u8 1] rfl rfl (by decide); rw [of_name] at h; rw [HI2.out] at h; exact h)); clear hb h3)
        | (go_at_call 72; (with_reducible refine Calls.mono HC2.out ?_); rintro e w2 ⟨rfl, hb⟩; have h3 : MStep p ve w1 ve w2 := PStep.below hb; have HP2 := Lib.hid (HP1.out.moved hb); have HS2 := Lib.hid (HS1.out.trans h3); have HG2 := Lib.hid (mkeep (HT1.out.trans h3) HP0.out HG0.out (by decide) (by decide)); have HT2 := Lib.hid (HT1.out.trans h3); clear bx; have bx := cell_of_row _ _ 0 _ _ _ HG2.out; have HC3 := Lib.hid ((by have h := is_new HP2.out [⟨#[105, 102]⟩] 1 [.string ⟨#[105, 102]⟩] rfl rfl (by decide) (by decide); rw [HI3.out] at h; exact h)); clear hb h3)
        | (go_at_call 71; (with_reducible refine Calls.mono HC3.out ?_); rintro e w3 ⟨rfl, hb⟩; have h3 : MStep p ve w2 ve w3 := PStep.below hb; have HP3 := Lib.hid (HP2.out.moved hb); have HS3 := Lib.hid (HS2.out.trans h3); have HG3 := Lib.hid (mkeep (HT2.out.trans h3) HP0.out HG0.out (by decide) (by decide)); have HT3 := Lib.hid (HT2.out.trans h3); clear bx; have bx := cell_of_row _ _ 0 _ _ _ HG3.out; have HC4 := Lib.hid ((by have h := is_new HP3.out [⟨#[119, 104, 105, 108, 101]⟩] 1 [.string ⟨#[119, 104, 105, 108, 101]⟩] rfl rfl (by decide) (by decide); rw [HI4.out] at h; exact h)); clear hb h3)
        | (go_at_call 71; (with_reducible refine Calls.mono HC4.out ?_); rintro e w4 ⟨rfl, hb⟩; have h3 : MStep p ve w3 ve w4 := PStep.below hb; have HP4 := Lib.hid (HP3.out.moved hb); have HS4 := Lib.hid (HS3.out.trans h3); have HG4 := Lib.hid (mkeep (HT3.out.trans h3) HP0.out HG0.out (by decide) (by decide)); have HT4 := Lib.hid (HT3.out.trans h3); clear bx; have bx := cell_of_row _ _ 0 _ _ _ HG4.out; have HC5 := Lib.hid ((by have h := is_new HP4.out [⟨#[102, 111, 114]⟩] 1 [.string ⟨#[102, 111, 114]⟩] rfl rfl (by decide) (by decide); rw [HI5.out] at h; exact h)); clear hb h3)
        | (go_at_call 71; (with_reducible refine Calls.mono HC5.out ?_); rintro e w5 ⟨rfl, hb⟩; have h3 : MStep p ve w4 ve w5 := PStep.below hb; have HP5 := Lib.hid (HP4.out.moved hb); have HS5 := Lib.hid (HS4.out.trans h3); have HG5 := Lib.hid (mkeep (HT4.out.trans h3) HP0.out HG0.out (by decide) (by decide)); have HT5 := Lib.hid (HT4.out.trans h3); clear bx; have bx := cell_of_row _ _ 0 _ _ _ HG5.out; have HC6 := Lib.hid (G_other n HNN.out W0 A c w5 p i d out ve _ HP5.out HX6.out (five_no HI1.out HI2.out HI3.out HI4.out HI5.out)); clear hb h3)
        | (go_at_call 126; (with_reducible refine Calls.mono HC6.out ?_); rintro e w6 ⟨rfl, ve6, h3⟩; have HS6 := Lib.hid (HS5.out.trans h3); clear h3))
       exact ⟨rfl, rfl, ve6, HS6.out⟩
end Go.Proofs.Ytmjbpgnjgblnmaa
namespace Go.Proofs.Ytmjbpgnjgblnmaa
open Go.RowKit Go.Proofs.YtmjbpgnjgblnmaaW.PrintWords Go.Proofs.YtmjbpgnjgblnmaaW.PrintLast Go.Proofs.YtmjbpgnjgblnmaaW.PrintMore
set_option maxRecDepth 100000 in
set_option maxHeartbeats 8000000 in
theorem g_other (l : List Tk) (N : Nat) (G_other_1 : GoodC l N 144 [.word ⟨#[114, 101, 112, 101, 97, 116]⟩, .rule .r_body, .word ⟨#[117, 110, 116, 105, 108]⟩, .rule .r_expr]) (G_other_2 : GoodC l N 145 [.word ⟨#[114, 101, 116, 117, 114, 110]⟩, .rule .r_maybe]) (G_other_3 : GoodC l N 147 [.word ⟨#[98, 101, 103, 105, 110]⟩, .rule .r_body, .word ⟨#[101, 110, 100]⟩]) : ∀ n, n ≤ N + 1 → ∀ (W0 : World) (A : Option Addr) (c : Nat) (w : World) (p i : Nat) (d : Int) (out : List Ev) (ve : Value) (r : SRes), SAt W0 A c l w p i d out ve → srun l n ⟨[.rule .r_statement], i, d, out⟩ = some r → inL (cAt l i) [⟨#[115, 107, 105, 112]⟩, ⟨#[64, 110, 97, 109, 101]⟩, ⟨#[105, 102]⟩, ⟨#[119, 104, 105, 108, 101]⟩, ⟨#[102, 111, 114]⟩] = false → Calls Try.prog 126 #[.pointer (some ⟨p, 0, none⟩)] w (SPost W0 A c l p ve w r) := by
 intro n hn W0 A c w p i d out ve r H hr hpre
 show Calls Try.prog 126 _ w _
 have HNN := Lib.hid hn
 have hr0 : srun l n ⟨[.rule .r_statement], i, d, out⟩ = some r := hr
 have HPRE := Lib.hid hpre
 clear hn
 obtain ⟨w0, hw0⟩ : ∃ V, w.alloc (.cells #[.pointer (some ⟨p, 0, none⟩)] 83) = V := ⟨_, rfl⟩
 have hb0 : Below w.heap.size w w0 := by rw [← hw0]; exact (Below.refl _ w).alloc (Nat.le_refl _) _
 have hg : w0.heap[w.heap.size]? = some (.cells #[.pointer (some ⟨p, 0, none⟩)] 83 (0, 0)) := by rw [← hw0]; exact World.alloc_heap_new _ _
 have HWB := Lib.hid hw0
 have HP0 := Lib.hid (H.moved hb0)
 have HS0 := Lib.hid (PStep.below hb0 : MStep p ve w ve w0)
 have HT0 := Lib.hid (PStep.refl p (.slice none 0 0) ve w0)
 obtain ⟨g, hge⟩ : ∃ g, w.heap.size = g := ⟨_, rfl⟩
 rw [hge] at hg
 have HGE := Lib.hid hge
 have HG0 := Lib.hid hg
 have bx := cell_of_row _ _ 0 _ _ _ hg
 clear hw0 hb0 hg hge H
 by_cases hin1' : inL (cAt l i) [⟨#[114, 101, 112, 101, 97, 116]⟩] = true
 ·have hin1 := hin1'
  clear hin1'
  have h2 := hr0
  cases r with
  | ok i2 d2 out2 =>
   have HX2 := Lib.hid h2
   have HI1 := Lib.hid hin1
   have HC1 := Lib.hid ((by have h := is_new HP0.out [⟨#[114, 101, 112, 101, 97, 116]⟩] 1 [.string ⟨#[114, 101, 112, 101, 97, 116]⟩] rfl rfl (by decide) (by decide); rw [HI1.out] at h; exact h))
   clear h2 hin1
   (try clear hr)
   go_enter Try.func126, Try.ntmps126
   go_upto_region 2 with (fail)
   rw [HWB.out, HGE.out]
   go_wp2_with (first
    | (go_at_call 71; (with_reducible refine Calls.mono HC1.out ?_); rintro e w1 ⟨rfl, hb⟩; have h3 : MStep p ve w0 ve w1 := PStep.below hb; have HP1 := Lib.hid (HP0.out.moved hb); have HS1 := Lib.hid (HS0.out.trans h3); have HG1 := Lib.hid (mkeep (HT0.out.trans h3) HP0.out HG0.out (by decide) (by decide)); have HT1 := Lib.hid (HT0.out.trans h3); clear bx; have bx := cell_of_row _ _ 0 _ _ _ HG1.out; have HC2 := Lib.hid (node_rule HP1.out 18 18 rfl (.func (.func 144) #[] #[.pointer (some ⟨g, 0, none⟩)]) 144 (.pointer (some ⟨g, 0, none⟩)) (.inr rfl) (fun w => enters_ Try.func144 (by kernel_rfl) rfl #[(.pointer (some ⟨g, 0, none⟩))] w) (T := [.word ⟨#[114, 101, 112, 101, 97, 116]⟩, .rule .r_body, .word ⟨#[117, 110, 116, 105, 108]⟩, .rule .r_expr]) (R := .r_statement) (by rw [one_of HI1.out]; rfl) (G_other_1.body HP1.out HG1.out) HNN.out HX2.out); clear hb h3)
    | (go_at_call 55; (with_reducible refine Calls.mono HC2.out ?_); rintro e w2 ⟨rfl, ve2, h2, h3⟩; have HP2 := Lib.hid h2; have HS2 := Lib.hid (HS1.out.trans h3); have HG2 := Lib.hid (mkeep (HT1.out.trans h3) HP0.out HG0.out (by decide) (by decide)); have HT2 := Lib.hid (HT1.out.trans h3); clear bx; have bx := cell_of_row _ _ 0 _ _ _ HG2.out; clear h2 h3))
   go_end0
   exact ⟨rfl, ve2, HP2.out, HS2.out⟩
  | err er jj =>
   have HX2 := Lib.hid h2
   have HI1 := Lib.hid hin1
   have HC1 := Lib.hid ((by have h := is_new HP0.out [⟨#[114, 101, 112, 101, 97, 116]⟩] 1 [.string ⟨#[114, 101, 112, 101, 97, 116]⟩] rfl rfl (by decide) (by decide); rw [HI1.out] at h; exact h))
   clear h2 hin1
   (try clear hr)
   go_enter Try.func126, Try.ntmps126
   go_upto_region 2 with (fail)
   rw [HWB.out, HGE.out]
   go_wp2_with (first
    | (go_at_call 71; (with_reducible refine Calls.mono HC1.out ?_); rintro e w1 ⟨rfl, hb⟩; have h3 : MStep p ve w0 ve w1 := PStep.below hb; have HP1 := Lib.hid (HP0.out.moved hb); have HS1 := Lib.hid (HS0.out.trans h3); have HG1 := Lib.hid (mkeep (HT0.out.trans h3) HP0.out HG0.out (by decide) (by decide)); have HT1 := Lib.hid (HT0.out.trans h3); clear bx; have bx := cell_of_row _ _ 0 _ _ _ HG1.out; have HC2 := Lib.hid (node_rule HP1.out 18 18 rfl (.func (.func 144) #[] #[.pointer (some ⟨g, 0, none⟩)]) 144 (.pointer (some ⟨g, 0, none⟩)) (.inr rfl) (fun w => enters_ Try.func144 (by kernel_rfl) rfl #[(.pointer (some ⟨g, 0, none⟩))] w) (T := [.word ⟨#[114, 101, 112, 101, 97, 116]⟩, .rule .r_body, .word ⟨#[117, 110, 116, 105, 108]⟩, .rule .r_expr]) (R := .r_statement) (by rw [one_of HI1.out]; rfl) (G_other_1.body HP1.out HG1.out) HNN.out HX2.out); clear hb h3)
    | (go_at_call 55; (with_reducible refine Calls.mono HC2.out ?_); rintro e w2 ⟨rfl, ve2, h3⟩; have HS2 := Lib.hid (HS1.out.trans h3); clear h3))
   exact ⟨rfl, rfl, ve2, HS2.out⟩
 ·have hin1 : inL (cAt l i) [⟨#[114, 101, 112, 101, 97, 116]⟩] = false := by simpa using hin1'
  clear hin1'
  by_cases hin2' : inL (cAt l i) [⟨#[114, 101, 116, 117, 114, 110]⟩] = true
  ·have hin2 := hin2'
   clear hin2'
   have h3 := hr0
   cases r with
   | ok i3 d3 out3 =>
    have HX3 := Lib.hid h3
    have HI1 := Lib.hid hin1; have HI2 := Lib.hid hin2
    have HC1 := Lib.hid ((by have h := is_new HP0.out [⟨#[114, 101, 112, 101, 97, 116]⟩] 1 [.string ⟨#[114, 101, 112, 101, 97, 116]⟩] rfl rfl (by decide) (by decide); rw [HI1.out] at h; exact h))
    clear h3 hin1 hin2
    (try clear hr)
    go_enter Try.func126, Try.ntmps126
    go_upto_region 2 with (fail)
    rw [HWB.out, HGE.out]
    go_wp2_with (first
     | (go_at_call 71; (with_reducible refine Calls.mono HC1.out ?_); rintro e w1 ⟨rfl, hb⟩; have h3 : MStep p ve w0 ve w1 := PStep.below hb; have HP1 := Lib.hid (HP0.out.moved hb); have HS1 := Lib.hid (HS0.out.trans h3); have HG1 := Lib.hid (mkeep (HT0.out.trans h3) HP0.out HG0.out (by decide) (by decide)); have HT1 := Lib.hid (HT0.out.trans h3); clear bx; have bx := cell_of_row _ _ 0 _ _ _ HG1.out; have HC2 := Lib.hid ((by have h := is_new HP1.out [⟨#[114, 101, 116, 117, 114, 110]⟩] 1 [.string ⟨#[114, 101, 116, 117, 114, 110]⟩] rfl rfl (by decide) (by decide); rw [HI2.out] at h; exact h)); clear hb h3)
     | (go_at_call 71; (with_reducible refine Calls.mono HC2.out ?_); rintro e w2 ⟨rfl, hb⟩; have h3 : MStep p ve w1 ve w2 := PStep.below hb; have HP2 := Lib.hid (HP1.out.moved hb); have HS2 := Lib.hid (HS1.out.trans h3); have HG2 := Lib.hid (mkeep (HT1.out.trans h3) HP0.out HG0.out (by decide) (by decide)); have HT2 := Lib.hid (HT1.out.trans h3); clear bx; have bx := cell_of_row _ _ 0 _ _ _ HG2.out; have HC3 := Lib.hid (node_rule HP2.out 19 19 rfl (.func (.func 145) #[] #[.pointer (some ⟨g, 0, none⟩)]) 145 (.pointer (some ⟨g, 0, none⟩)) (.inr rfl) (fun w => enters_ Try.func145 (by kernel_rfl) rfl #[(.pointer (some ⟨g, 0, none⟩))] w) (T := [.word ⟨#[114, 101, 116, 117, 114, 110]⟩, .rule .r_maybe]) (R := .r_statement) (by rw [one_of HI2.out]; rfl) (G_other_2.body HP2.out HG2.out) HNN.out HX3.out); clear hb h3)
     | (go_at_call 55; (with_reducible refine Calls.mono HC3.out ?_); rintro e w3 ⟨rfl, ve3, h2, h3⟩; have HP3 := Lib.hid h2; have HS3 := Lib.hid (HS2.out.trans h3); have HG3 := Lib.hid (mkeep (HT2.out.trans h3) HP0.out HG0.out (by decide) (by decide)); have HT3 := Lib.hid (HT2.out.trans h3); clear bx; have bx := cell_of_row _ _ 0 _ _ _ HG3.out; clear h2 h3))
    go_end0
    exact ⟨rfl, ve3, HP3.out, HS3.out⟩
   | err er jj =>
    have HX3 := Lib.hid h3
    have HI1 := Lib.hid hin1; have HI2 := Lib.hid hin2
    have HC1 := Lib.hid ((by have h := is_new HP0.out [⟨#[114, 101, 112, 101, 97, 116]⟩] 1 [.string ⟨#[114, 101, 112, 101, 97, 116]⟩] rfl rfl (by decide) (by decide); rw [HI1.out] at h; exact h))
    clear h3 hin1 hin2
    (try clear hr)
    go_enter Try.func126, Try.ntmps126
    go_upto_region 2 with (fail)
    rw [HWB.out, HGE.out]
    go_wp2_with (first
     | (go_at_call 71; (with_reducible refine Calls.mono HC1.out ?_); rintro e w1 ⟨rfl, hb⟩; have h3 : MStep p ve w0 ve w1 := PStep.below hb; have HP1 := Lib.hid (HP0.out.moved hb); have HS1 := Lib.hid (HS0.out.trans h3); have HG1 := Lib.hid (mkeep (HT0.out.trans h3) HP0.out HG0.out (by decide) (by decide)); have HT1 := Lib.hid (HT0.out.trans h3); clear bx; have bx := cell_of_row _ _ 0 _ _ _ HG1.out; have HC2 := Lib.hid ((by have h := is_new HP1.out [⟨#[114, 101, 116, 117, 114, 110]⟩] 1 [.string ⟨#[114, 101, 116, 117, 114, 110]⟩] rfl rfl (by decide) (by decide); rw [HI2.out] at h; exact h)); clear hb h3)
     | (go_at_call 71; (with_reducible refine Calls.mono HC2.out ?_); rintro e w2 ⟨rfl, hb⟩; have h3 : MStep p ve w1 ve w2 := PStep.below hb; have HP2 := Lib.hid (HP1.out.moved hb); have HS2 := Lib.hid (HS1.out.trans h3); have HG2 := Lib.hid (mkeep (HT1.out.trans h3) HP0.out HG0.out (by decide) (by decide)); have HT2 := Lib.hid (HT1.out.trans h3); clear bx; have bx := cell_of_row _ _ 0 _ _ _ HG2.out; have HC3 := Lib.hid (node_rule HP2.out 19 19 rfl (.func (.func 145) #[] #[.pointer (some ⟨g, 0, none⟩)]) 145 (.pointer (some ⟨g, 0, none⟩)) (.inr rfl) (fun w => enters_ Try.func145 (by kernel_rfl) rfl #[(.pointer (some ⟨g, 0, none⟩))] w) (T := [.word ⟨#[114, 101, 116, 117, 114, 110]⟩, .rule .r_maybe]) (R := .r_statement) (by rw [one_of HI2.out]; rfl) (G_other_2.body HP2.out HG2.out) HNN.out HX3.out); clear hb h3)
     | (go_at_call 55; (with_reducible refine Calls.mono HC3.out ?_); rintro e w3 ⟨rfl, ve3, h3⟩; have HS3 := Lib.hid (HS2.out.trans h3); clear h3))
    exact ⟨rfl, rfl, ve3, HS3.out⟩
  ·have hin2 : inL (cAt l i) [⟨#[114, 101, 116, 117, 114, 110]⟩] = false := by simpa using hin2'
   clear hin2'
   by_cases hin3' : inL (cAt l i) [⟨#[98, 101, 103, 105, 110]⟩] = true
   ·have hin3 := hin3'
    clear hin3'
    have h4 := hr0
    cases r with
    | ok i4 d4 out4 =>
     have HX4 := Lib.hid h4
     have HI1 := Lib.hid hin1; have HI2 := Lib.hid hin2; have HI3 := Lib.hid hin3
     have HC1 := Lib.hid ((by have h := is_new HP0.out [⟨#[114, 101, 112, 101, 97, 116]⟩] 1 [.string ⟨#[114, 101, 112, 101, 97, 116]⟩] rfl rfl (by decide) (by decide); rw [HI1.out] at h; exact h))
     clear h4 hin1 hin2 hin3
     (try clear hr)
     go_enter Try.func126, Try.ntmps126
     go_upto_region 2 with (fail)
     rw [HWB.out, HGE.out]
     go_wp2_with (first
      | (go_at_call 71; (with_reducible refine Calls.mono HC1.out ?_); rintro e w1 ⟨rfl, hb⟩; have h3 : MStep p ve w0 ve w1 := PStep.below hb; have HP1 := Lib.hid (HP0.out.moved hb); have HS1 := Lib.hid (HS0.out.trans h3); have HG1 := Lib.hid (mkeep (HT0.out.trans h3) HP0.out HG0.out (by decide) (by decide)); have HT1 := Lib.hid (HT0.out.trans h3); clear bx; have bx := cell_of_row _ _ 0 _ _ _ HG1.out; have HC2 := Lib.hid ((by have h := is_new HP1.out [⟨#[114, 101, 116, 117, 114, 110]⟩] 1 [.string ⟨#[114, 101, 116, 117, 114, 110]⟩] rfl rfl (by decide) (by decide); rw [HI2.out] at h; exact h)); clear hb h3)
      | (go_at_call 71; (with_reducible refine Calls.mono HC2.out ?_); rintro e w2 ⟨rfl, hb⟩; have h3 : MStep p ve w1 ve w2 := PStep.below hb; have HP2 := Lib.hid (HP1.out.moved hb); have HS2 := Lib.hid (HS1.out.trans h3); have HG2 := Lib.hid (mkeep (HT1.out.trans h3) HP0.out HG0.out (by decide) (by decide)); have HT2 := Lib.hid (HT1.out.trans h3); clear bx; have bx := cell_of_row _ _ 0 _ _ _ HG2.out; have HC3 := Lib.hid ((by have h := is_new HP2.out [⟨#[98, 101, 103, 105, 110]⟩] 1 [.string ⟨#[98, 101, 103, 105, 110]⟩] rfl rfl (by decide) (by decide); rw [HI3.out] at h; exact h)); clear hb h3)
      | (go_at_call 71; (with_reducible refine Calls.mono HC3.out ?_); rintro e w3 ⟨rfl, hb⟩; have h3 : MStep p ve w2 ve w3 := PStep.below hb; have HP3 := Lib.hid (HP2.out.moved hb); have HS3 := Lib.hid (HS2.out.trans h3); have HG3 := Lib.hid (mkeep (HT2.out.trans h3) HP0.out HG0.out (by decide) (by decide)); have HT3 := Lib.hid (HT2.out.trans h3); clear bx; have bx := cell_of_row _ _ 0 _ _ _ HG3.out; have HC4 := Lib.hid (node_rule HP3.out 20 20 rfl (.func (.func 147) #[] #[.pointer (some ⟨g, 0, none⟩)]) 147 (.pointer (some ⟨g, 0, none⟩)) (.inr rfl) (fun w => enters_ Try.func147 (by kernel_rfl) rfl #[(.pointer (some ⟨g, 0, none⟩))] w) (T := [.word ⟨#[98, 101, 103, 105, 110]⟩, .rule .r_body, .word ⟨#[101, 110, 100]⟩]) (R := .r_statement) (by rw [one_of HI3.out]; rfl) (G_other_3.body HP3.out HG3.out) HNN.out HX4.out); clear hb h3)
      | (go_at_call 55; (with_reducible refine Calls.mono HC4.out ?_); rintro e w4 ⟨rfl, ve4, h2, h3⟩; have HP4 := Lib.hid h2; have HS4 := Lib.hid (HS3.out.trans h3); have HG4 := Lib.hid (mkeep (HT3.out.trans h3) HP0.out HG0.out (by decide) (by decide)); have HT4 := Lib.hid (HT3.out.trans h3); clear bx; have bx := cell_of_row _ _ 0 _ _ _ HG4.out; clear h2 h3))
     go_end0
     exact ⟨rfl, ve4, HP4.out, HS4.out⟩
    | err er jj =>
     have HX4 := Lib.hid h4
     have HI1 := Lib.hid hin1; have HI2 := Lib.hid hin2; have HI3 := Lib.hid hin3
     have HC1 := Lib.hid ((by have h := is_new HP0.out [⟨#[114, 101, 112, 101, 97, 116]⟩] 1 [.string ⟨#[114, 101, 112, 101, 97, 116]⟩] rfl rfl (by decide) (by decide); rw [HI1.out] at h; exact h))
     clear h4 hin1 hin2 hin3
     (try clear hr)
     go_enter Try.func126, Try.ntmps126
     go_upto_region 2 with (fail)
     rw [HWB.out, HGE.out]
     go_wp2_with (first
      | (go_at_call 71; (with_reducible refine Calls.mono HC1.out ?_); rintro e w1 ⟨rfl, hb⟩; have h3 : MStep p ve w0 ve w1 := PStep.below hb; have HP1 := Lib.hid (HP0.out.moved hb); have HS1 := Lib.hid (HS0.out.trans h3); have HG1 := Lib.hid (mkeep (HT0.out.trans h3) HP0.out HG0.out (by decide) (by decide)); have HT1 := Lib.hid (HT0.out.trans h3); clear bx; have bx := cell_of_row _ _ 0 _ _ _ HG1.out; have HC2 := Lib.hid ((by have h := is_new HP1.out [⟨#[114, 101, 116, 117, 114, 110]⟩] 1 [.string ⟨#[114, 101, 116, 117, 114, 110]⟩] rfl rfl (by decide) (by decide); rw [HI2.out] at h; exact h)); clear hb h3)
      | (go_at_call 71; (with_reducible refine Calls.mono HC2.out ?_); rintro e w2 ⟨rfl, hb⟩; have h3 : MStep p ve w1 ve w2 := PStep.below hb; have HP2 := Lib.hid (HP1.out.moved hb); have HS2 := Lib.hid (HS1.out.trans h3); have HG2 := Lib.hid (mkeep (HT1.out.trans h3) HP0.out HG0.out (by decide) (by decide)); have HT2 := Lib.hid (HT1.out.trans h3); clear bx; have bx := cell_of_row _ _ 0 _ _ _ HG2.out; have HC3 := Lib.hid ((by have h := is_new HP2.out [⟨#[98, 101, 103, 105, 110]⟩] 1 [.string ⟨#[98, 101, 103, 105, 110]⟩] rfl rfl (by decide) (by decide); rw [HI3.out] at h; exact h)); clear hb h3)
      | (go_at_call 71; (with_reducible refine Calls.mono HC3.out ?_); rintro e w3 ⟨rfl, hb⟩; have h3 : MStep p ve w2 ve w3 := PStep.below hb; have HP3 := Lib.hid (HP2.out.moved hb); have HS3 := Lib.hid (HS2.out.trans h3); have HG3 := Lib.hid (mkeep (HT2.out.trans h3) HP0.out HG0.out (by decide) (by decide)); have HT3 := Lib.hid (HT2.out.trans h3); clear bx; have bx := cell_of_row _ _ 0 _ _ _ HG3.out; have HC4 := Lib.hid (node_rule HP3.out 20 20 rfl (.func (.func 147) #[] #[.pointer (some ⟨g, 0, none⟩)]) 147 (.pointer (some ⟨g, 0, none⟩)) (.inr rfl) (fun w => enters_ Try.func147 (by kernel_rfl) rfl #[(.pointer (some ⟨g, 0, none⟩))] w) (T := [.word ⟨#[98, 101, 103, 105, 110]⟩, .rule .r_body, .word ⟨#[101, 110, 100]⟩]) (R := .r_statement) (by rw [one_of HI3.out]; rfl) (G_other_3.body HP3.out HG3.out) HNN.out HX4.out); clear hb h3)
      | (go_at_call 55; (with_reducible refine Calls.mono HC4.out ?_); rintro e w4 ⟨rfl, ve4, h3⟩; have HS4 := Lib.hid (HS3.out.trans h3); clear h3))
     exact ⟨rfl, rfl, ve4, HS4.out⟩
   ·have hin3 : inL (cAt l i) [⟨#[98, 101, 103, 105, 110]⟩] = false := by simpa using hin3'
    clear hin3'
    have h4 := hr0
    obtain ⟨_, hre⟩ := srun_fin hr0 (q := .err (if i = l.length then 121 else 120) i) (by simp [sstep, (show RId.expand .r_statement (cAt l i) = none by simp only [RId.expand]; rw [if_neg (none_of HPRE.out _ (by simp)), if_neg (none_of HPRE.out _ (by simp)), if_neg (none_of HPRE.out _ (by simp)), if_neg (none_of HPRE.out _ (by simp)), if_neg (none_of HPRE.out _ (by simp)), if_neg (none_of hin1 _ List.mem_cons_self), if_neg (none_of hin2 _ List.mem_cons_self), if_neg (none_of hin3 _ List.mem_cons_self)])])
    cases r with
    | ok i4 d4 out4 => cases hre
    | err er jj =>
     clear hre
     have HX4 := Lib.hid h4
     have HI1 := Lib.hid hin1; have HI2 := Lib.hid hin2; have HI3 := Lib.hid hin3
     have HC1 := Lib.hid ((by have h := is_new HP0.out [⟨#[114, 101, 112, 101, 97, 116]⟩] 1 [.string ⟨#[114, 101, 112, 101, 97, 116]⟩] rfl rfl (by decide) (by decide); rw [HI1.out] at h; exact h))
     clear h4 hin1 hin2 hin3
     (try clear hr)
     go_enter Try.func126, Try.ntmps126
     go_upto_region 2 with (fail)
     rw [HWB.out, HGE.out]
     go_wp2_with (first
      | (go_at_call 71; (with_reducible refine Calls.mono HC1.out ?_); rintro e w1 ⟨rfl, hb⟩; have h3 : MStep p ve w0 ve w1 := PStep.below hb; have HP1 := Lib.hid (HP0.out.moved hb); have HS1 := Lib.hid (HS0.out.trans h3); have HG1 := Lib.hid (mkeep (HT0.out.trans h3) HP0.out HG0.out (by decide) (by decide)); have HT1 := Lib.hid (HT0.out.trans h3); clear bx; have bx := cell_of_row _ _ 0 _ _ _ HG1.out; have HC2 := Lib.hid ((by have h := is_new HP1.out [⟨#[114, 101, 116, 117, 114, 110]⟩] 1 [.string ⟨#[114, 101, 116, 117, 114, 110]⟩] rfl rfl (by decide) (by decide); rw [HI2.out] at h; exact h)); clear hb h3)
      | (go_at_call 71; (with_reducible refine Calls.mono HC2.out ?_); rintro e w2 ⟨rfl, hb⟩; have h3 : MStep p ve w1 ve w2 := PStep.below hb; have HP2 := Lib.hid (HP1.out.moved hb); have HS2 := Lib.hid (HS1.out.trans h3); have HG2 := Lib.hid (mkeep (HT1.out.trans h3) HP0.out HG0.out (by decide) (by decide)); have HT2 := Lib.hid (HT1.out.trans h3); clear bx; have bx := cell_of_row _ _ 0 _ _ _ HG2.out; have HC3 := Lib.hid ((by have h := is_new HP2.out [⟨#[98, 101, 103, 105, 110]⟩] 1 [.string ⟨#[98, 101, 103, 105, 110]⟩] rfl rfl (by decide) (by decide); rw [HI3.out] at h; exact h)); clear hb h3)
      | (go_at_call 71; (with_reducible refine Calls.mono HC3.out ?_); rintro e w3 ⟨rfl, hb⟩; have h3 : MStep p ve w2 ve w3 := PStep.below hb; have HP3 := Lib.hid (HP2.out.moved hb); have HS3 := Lib.hid (HS2.out.trans h3); have HG3 := Lib.hid (mkeep (HT2.out.trans h3) HP0.out HG0.out (by decide) (by decide)); have HT3 := Lib.hid (HT2.out.trans h3); clear bx; have bx := cell_of_row _ _ 0 _ _ _ HG3.out; have HC4 := Lib.hid (fail_post HP3.out (show RId.expand .r_statement (cAt l i) = none by simp only [RId.expand]; rw [if_neg (none_of HPRE.out _ (by simp)), if_neg (none_of HPRE.out _ (by simp)), if_neg (none_of HPRE.out _ (by simp)), if_neg (none_of HPRE.out _ (by simp)), if_neg (none_of HPRE.out _ (by simp)), if_neg (none_of HI1.out _ List.mem_cons_self), if_neg (none_of HI2.out _ List.mem_cons_self), if_neg (none_of HI3.out _ List.mem_cons_self)]) HX4.out); clear hb h3)
      | (go_at_call 61; (with_reducible refine Calls.mono HC4.out ?_); rintro e w4 ⟨rfl, ve4, h3⟩; have HS4 := Lib.hid (HS3.out.trans h3); clear h3))
     exact ⟨rfl, rfl, ve4, HS4.out⟩
end Go.Proofs.Ytmjbpgnjgblnmaa
namespace Go.Proofs.Ytmjbpgnjgblnmaa
open Go.RowKit Go.Proofs.YtmjbpgnjgblnmaaW.PrintWords Go.Proofs.YtmjbpgnjgblnmaaW.PrintLast Go.Proofs.YtmjbpgnjgblnmaaW.PrintMore
theorem third {cc : ByteArray} (h : inL cc [⟨#[118, 97, 114]⟩, ⟨#[99, 111, 110, 115, 116]⟩, ⟨#[112, 114, 111, 99]⟩] = true) (h1 : inL cc [⟨#[118, 97, 114]⟩] = false) (h2 : inL cc [⟨#[99, 111, 110, 115, 116]⟩] = false) : cc = ⟨#[112, 114, 111, 99]⟩ := by
 have hm := (inL_iff _ _).1 h
 simp only [List.mem_cons, List.not_mem_nil, or_false] at hm
 rcases hm with hm | hm | hm
 ·exact absurd hm (none_of h1 _ List.mem_cons_self)
 ·exact absurd hm (none_of h2 _ List.mem_cons_self)
 ·exact hm
set_option maxRecDepth 100000 in
set_option maxHeartbeats 8000000 in
theorem g_declaration (l : List Tk) (N : Nat) (G_declaration_1 : GoodC l N 90 [.word ⟨#[118, 97, 114]⟩, .word ⟨#[64, 110, 97, 109, 101]⟩, .rule .r_names, .word ⟨#[58]⟩, .rule .r_kind, .word ⟨#[59]⟩]) (G_declaration_2 : GoodC l N 92 [.word ⟨#[99, 111, 110, 115, 116]⟩, .word ⟨#[64, 110, 97, 109, 101]⟩, .word ⟨#[61]⟩, .rule .r_expr, .word ⟨#[59]⟩]) (G_proc : Good l N 94 [.word ⟨#[112, 114, 111, 99]⟩, .word ⟨#[64, 110, 97, 109, 101]⟩, .rule .r_params, .rule .r_typed, .word ⟨#[59]⟩, .rule .r_block, .word ⟨#[59]⟩]) : ∀ n, n ≤ N + 1 → ∀ (W0 : World) (A : Option Addr) (c : Nat) (w : World) (p i : Nat) (d : Int) (out : List Ev) (ve : Value) (r : SRes), SAt W0 A c l w p i d out ve → srun l n ⟨[.rule .r_declaration], i, d, out⟩ = some r → inL (cAt l i) [⟨#[118, 97, 114]⟩, ⟨#[99, 111, 110, 115, 116]⟩, ⟨#[112, 114, 111, 99]⟩] = true → Calls Try.prog 74 #[.pointer (some ⟨p, 0, none⟩)] w (SPost W0 A c l p ve w r) := by
 intro n hn W0 A c w p i d out ve r H hr hpre
 show Calls Try.prog 74 _ w _
 have HNN := Lib.hid hn
 have hr0 : srun l n ⟨[.rule .r_declaration], i, d, out⟩ = some r := hr
 have HPRE := Lib.hid hpre
 clear hn
 obtain ⟨w0, hw0⟩ : ∃ V, w.alloc (.cells #[.pointer (some ⟨p, 0, none⟩)] 83) = V := ⟨_, rfl⟩
 have hb0 : Below w.heap.size w w0 := by rw [← hw0]; exact (Below.refl _ w).alloc (Nat.le_refl _) _
 have hg : w0.heap[w.heap.size]? = some (.cells #[.pointer (some ⟨p, 0, none⟩)] 83 (0, 0)) := by rw [← hw0]; exact World.alloc_heap_new _ _
 have HWB := Lib.hid hw0
 have HP0 := Lib.hid (H.moved hb0)
 have HS0 := Lib.hid (PStep.below hb0 : MStep p ve w ve w0)
 have HT0 := Lib.hid (PStep.refl p (.slice none 0 0) ve w0)
 obtain ⟨g, hge⟩ : ∃ g, w.heap.size = g := ⟨_, rfl⟩
 rw [hge] at hg
 have HGE := Lib.hid hge
 have HG0 := Lib.hid hg
 have bx := cell_of_row _ _ 0 _ _ _ hg
 clear hw0 hb0 hg hge H
 by_cases hin1' : inL (cAt l i) [⟨#[118, 97, 114]⟩] = true
 ·have hin1 := hin1'
  clear hin1'
  have h2 := hr0
  cases r with
  | ok i2 d2 out2 =>
   have HX2 := Lib.hid h2
   have HI1 := Lib.hid hin1
   have HC1 := Lib.hid ((by have h := is_new HP0.out [⟨#[118, 97, 114]⟩] 1 [.string ⟨#[118, 97, 114]⟩] rfl rfl (by decide) (by decide); rw [HI1.out] at h; exact h))
   clear h2 hin1
   (try clear hr)
   go_enter Try.func74, Try.ntmps74
   go_upto_region 2 with (fail)
   rw [HWB.out, HGE.out]
   go_wp2_with (first
    | (go_at_call 71; (with_reducible refine Calls.mono HC1.out ?_); rintro e w1 ⟨rfl, hb⟩; have h3 : MStep p ve w0 ve w1 := PStep.below hb; have HP1 := Lib.hid (HP0.out.moved hb); have HS1 := Lib.hid (HS0.out.trans h3); have HG1 := Lib.hid (mkeep (HT0.out.trans h3) HP0.out HG0.out (by decide) (by decide)); have HT1 := Lib.hid (HT0.out.trans h3); clear bx; have bx := cell_of_row _ _ 0 _ _ _ HG1.out; have HC2 := Lib.hid (node_rule HP1.out 3 3 rfl (.func (.func 90) #[] #[.pointer (some ⟨g, 0, none⟩)]) 90 (.pointer (some ⟨g, 0, none⟩)) (.inr rfl) (fun w => enters_ Try.func90 (by kernel_rfl) rfl #[(.pointer (some ⟨g, 0, none⟩))] w) (T := [.word ⟨#[118, 97, 114]⟩, .word ⟨#[64, 110, 97, 109, 101]⟩, .rule .r_names, .word ⟨#[58]⟩, .rule .r_kind, .word ⟨#[59]⟩]) (R := .r_declaration) (by rw [one_of HI1.out]; rfl) (G_declaration_1.body HP1.out HG1.out) HNN.out HX2.out); clear hb h3)
    | (go_at_call 55; (with_reducible refine Calls.mono HC2.out ?_); rintro e w2 ⟨rfl, ve2, h2, h3⟩; have HP2 := Lib.hid h2; have HS2 := Lib.hid (HS1.out.trans h3); have HG2 := Lib.hid (mkeep (HT1.out.trans h3) HP0.out HG0.out (by decide) (by decide)); have HT2 := Lib.hid (HT1.out.trans h3); clear bx; have bx := cell_of_row _ _ 0 _ _ _ HG2.out; clear h2 h3))
   go_end0
   exact ⟨rfl, ve2, HP2.out, HS2.out⟩
  | err er jj =>
   have HX2 := Lib.hid h2
   have HI1 := Lib.hid hin1
   have HC1 := Lib.hid ((by have h := is_new HP0.out [⟨#[118, 97, 114]⟩] 1 [.string ⟨#[118, 97, 114]⟩] rfl rfl (by decide) (by decide); rw [HI1.out] at h; exact h))
   clear h2 hin1
   (try clear hr)
   go_enter Try.func74, Try.ntmps74
   go_upto_region 2 with (fail)
   rw [HWB.out, HGE.out]
   go_wp2_with (first
    | (go_at_call 71; (with_reducible refine Calls.mono HC1.out ?_); rintro e w1 ⟨rfl, hb⟩; have h3 : MStep p ve w0 ve w1 := PStep.below hb; have HP1 := Lib.hid (HP0.out.moved hb); have HS1 := Lib.hid (HS0.out.trans h3); have HG1 := Lib.hid (mkeep (HT0.out.trans h3) HP0.out HG0.out (by decide) (by decide)); have HT1 := Lib.hid (HT0.out.trans h3); clear bx; have bx := cell_of_row _ _ 0 _ _ _ HG1.out; have HC2 := Lib.hid (node_rule HP1.out 3 3 rfl (.func (.func 90) #[] #[.pointer (some ⟨g, 0, none⟩)]) 90 (.pointer (some ⟨g, 0, none⟩)) (.inr rfl) (fun w => enters_ Try.func90 (by kernel_rfl) rfl #[(.pointer (some ⟨g, 0, none⟩))] w) (T := [.word ⟨#[118, 97, 114]⟩, .word ⟨#[64, 110, 97, 109, 101]⟩, .rule .r_names, .word ⟨#[58]⟩, .rule .r_kind, .word ⟨#[59]⟩]) (R := .r_declaration) (by rw [one_of HI1.out]; rfl) (G_declaration_1.body HP1.out HG1.out) HNN.out HX2.out); clear hb h3)
    | (go_at_call 55; (with_reducible refine Calls.mono HC2.out ?_); rintro e w2 ⟨rfl, ve2, h3⟩; have HS2 := Lib.hid (HS1.out.trans h3); clear h3))
   exact ⟨rfl, rfl, ve2, HS2.out⟩
 ·have hin1 : inL (cAt l i) [⟨#[118, 97, 114]⟩] = false := by simpa using hin1'
  clear hin1'
  by_cases hin2' : inL (cAt l i) [⟨#[99, 111, 110, 115, 116]⟩] = true
  ·have hin2 := hin2'
   clear hin2'
   have h3 := hr0
   cases r with
   | ok i3 d3 out3 =>
    have HX3 := Lib.hid h3
    have HI1 := Lib.hid hin1; have HI2 := Lib.hid hin2
    have HC1 := Lib.hid ((by have h := is_new HP0.out [⟨#[118, 97, 114]⟩] 1 [.string ⟨#[118, 97, 114]⟩] rfl rfl (by decide) (by decide); rw [HI1.out] at h; exact h))
    clear h3 hin1 hin2
    (try clear hr)
    go_enter Try.func74, Try.ntmps74
    go_upto_region 2 with (fail)
    rw [HWB.out, HGE.out]
    go_wp2_with (first
     | (go_at_call 71; (with_reducible refine Calls.mono HC1.out ?_); rintro e w1 ⟨rfl, hb⟩; have h3 : MStep p ve w0 ve w1 := PStep.below hb; have HP1 := Lib.hid (HP0.out.moved hb); have HS1 := Lib.hid (HS0.out.trans h3); have HG1 := Lib.hid (mkeep (HT0.out.trans h3) HP0.out HG0.out (by decide) (by decide)); have HT1 := Lib.hid (HT0.out.trans h3); clear bx; have bx := cell_of_row _ _ 0 _ _ _ HG1.out; have HC2 := Lib.hid ((by have h := is_new HP1.out [⟨#[99, 111, 110, 115, 116]⟩] 1 [.string ⟨#[99, 111, 110, 115, 116]⟩] rfl rfl (by decide) (by decide); rw [HI2.out] at h; exact h)); clear hb h3)
     | (go_at_call 71; (with_reducible refine Calls.mono HC2.out ?_); rintro e w2 ⟨rfl, hb⟩; have h3 : MStep p ve w1 ve w2 := PStep.below hb; have HP2 := Lib.hid (HP1.out.moved hb); have HS2 := Lib.hid (HS1.out.trans h3); have HG2 := Lib.hid (mkeep (HT1.out.trans h3) HP0.out HG0.out (by decide) (by decide)); have HT2 := Lib.hid (HT1.out.trans h3); clear bx; have bx := cell_of_row _ _ 0 _ _ _ HG2.out; have HC3 := Lib.hid (node_rule HP2.out 4 4 rfl (.func (.func 92) #[] #[.pointer (some ⟨g, 0, none⟩)]) 92 (.pointer (some ⟨g, 0, none⟩)) (.inr rfl) (fun w => enters_ Try.func92 (by kernel_rfl) rfl #[(.pointer (some ⟨g, 0, none⟩))] w) (T := [.word ⟨#[99, 111, 110, 115, 116]⟩, .word ⟨#[64, 110, 97, 109, 101]⟩, .word ⟨#[61]⟩, .rule .r_expr, .word ⟨#[59]⟩]) (R := .r_declaration) (by rw [one_of HI2.out]; rfl) (G_declaration_2.body HP2.out HG2.out) HNN.out HX3.out); clear hb h3)
     | (go_at_call 55; (with_reducible refine Calls.mono HC3.out ?_); rintro e w3 ⟨rfl, ve3, h2, h3⟩; have HP3 := Lib.hid h2; have HS3 := Lib.hid (HS2.out.trans h3); have HG3 := Lib.hid (mkeep (HT2.out.trans h3) HP0.out HG0.out (by decide) (by decide)); have HT3 := Lib.hid (HT2.out.trans h3); clear bx; have bx := cell_of_row _ _ 0 _ _ _ HG3.out; clear h2 h3))
    go_end0
    exact ⟨rfl, ve3, HP3.out, HS3.out⟩
   | err er jj =>
    have HX3 := Lib.hid h3
    have HI1 := Lib.hid hin1; have HI2 := Lib.hid hin2
    have HC1 := Lib.hid ((by have h := is_new HP0.out [⟨#[118, 97, 114]⟩] 1 [.string ⟨#[118, 97, 114]⟩] rfl rfl (by decide) (by decide); rw [HI1.out] at h; exact h))
    clear h3 hin1 hin2
    (try clear hr)
    go_enter Try.func74, Try.ntmps74
    go_upto_region 2 with (fail)
    rw [HWB.out, HGE.out]
    go_wp2_with (first
     | (go_at_call 71; (with_reducible refine Calls.mono HC1.out ?_); rintro e w1 ⟨rfl, hb⟩; have h3 : MStep p ve w0 ve w1 := PStep.below hb; have HP1 := Lib.hid (HP0.out.moved hb); have HS1 := Lib.hid (HS0.out.trans h3); have HG1 := Lib.hid (mkeep (HT0.out.trans h3) HP0.out HG0.out (by decide) (by decide)); have HT1 := Lib.hid (HT0.out.trans h3); clear bx; have bx := cell_of_row _ _ 0 _ _ _ HG1.out; have HC2 := Lib.hid ((by have h := is_new HP1.out [⟨#[99, 111, 110, 115, 116]⟩] 1 [.string ⟨#[99, 111, 110, 115, 116]⟩] rfl rfl (by decide) (by decide); rw [HI2.out] at h; exact h)); clear hb h3)
     | (go_at_call 71; (with_reducible refine Calls.mono HC2.out ?_); rintro e w2 ⟨rfl, hb⟩; have h3 : MStep p ve w1 ve w2 := PStep.below hb; have HP2 := Lib.hid (HP1.out.moved hb); have HS2 := Lib.hid (HS1.out.trans h3); have HG2 := Lib.hid (mkeep (HT1.out.trans h3) HP0.out HG0.out (by decide) (by decide)); have HT2 := Lib.hid (HT1.out.trans h3); clear bx; have bx := cell_of_row _ _ 0 _ _ _ HG2.out; have HC3 := Lib.hid (node_rule HP2.out 4 4 rfl (.func (.func 92) #[] #[.pointer (some ⟨g, 0, none⟩)]) 92 (.pointer (some ⟨g, 0, none⟩)) (.inr rfl) (fun w => enters_ Try.func92 (by kernel_rfl) rfl #[(.pointer (some ⟨g, 0, none⟩))] w) (T := [.word ⟨#[99, 111, 110, 115, 116]⟩, .word ⟨#[64, 110, 97, 109, 101]⟩, .word ⟨#[61]⟩, .rule .r_expr, .word ⟨#[59]⟩]) (R := .r_declaration) (by rw [one_of HI2.out]; rfl) (G_declaration_2.body HP2.out HG2.out) HNN.out HX3.out); clear hb h3)
     | (go_at_call 55; (with_reducible refine Calls.mono HC3.out ?_); rintro e w3 ⟨rfl, ve3, h3⟩; have HS3 := Lib.hid (HS2.out.trans h3); clear h3))
    exact ⟨rfl, rfl, ve3, HS3.out⟩
  ·have hin2 : inL (cAt l i) [⟨#[99, 111, 110, 115, 116]⟩] = false := by simpa using hin2'
   clear hin2'
   have h3 := hr0
   cases r with
   | ok i3 d3 out3 =>
    have HX3 := Lib.hid h3
    have HI1 := Lib.hid hin1; have HI2 := Lib.hid hin2
    have HC1 := Lib.hid ((by have h := is_new HP0.out [⟨#[118, 97, 114]⟩] 1 [.string ⟨#[118, 97, 114]⟩] rfl rfl (by decide) (by decide); rw [HI1.out] at h; exact h))
    clear h3 hin1 hin2
    (try clear hr)
    go_enter Try.func74, Try.ntmps74
    go_upto_region 2 with (fail)
    rw [HWB.out, HGE.out]
    go_wp2_with (first
     | (go_at_call 71; (with_reducible refine Calls.mono HC1.out ?_); rintro e w1 ⟨rfl, hb⟩; have h3 : MStep p ve w0 ve w1 := PStep.below hb; have HP1 := Lib.hid (HP0.out.moved hb); have HS1 := Lib.hid (HS0.out.trans h3); have HG1 := Lib.hid (mkeep (HT0.out.trans h3) HP0.out HG0.out (by decide) (by decide)); have HT1 := Lib.hid (HT0.out.trans h3); clear bx; have bx := cell_of_row _ _ 0 _ _ _ HG1.out; have HC2 := Lib.hid ((by have h := is_new HP1.out [⟨#[99, 111, 110, 115, 116]⟩] 1 [.string ⟨#[99, 111, 110, 115, 116]⟩] rfl rfl (by decide) (by decide); rw [HI2.out] at h; exact h)); clear hb h3)
     | (go_at_call 71; (with_reducible refine Calls.mono HC2.out ?_); rintro e w2 ⟨rfl, hb⟩; have h3 : MStep p ve w1 ve w2 := PStep.below hb; have HP2 := Lib.hid (HP1.out.moved hb); have HS2 := Lib.hid (HS1.out.trans h3); have HG2 := Lib.hid (mkeep (HT1.out.trans h3) HP0.out HG0.out (by decide) (by decide)); have HT2 := Lib.hid (HT1.out.trans h3); clear bx; have bx := cell_of_row _ _ 0 _ _ _ HG2.out; have HC3 := Lib.hid (node_rule HP2.out 5 5 rfl (.func (.func 94) #[.pointer (some ⟨p, 0, none⟩)] #[]) 94 (.pointer (some ⟨p, 0, none⟩)) (.inl rfl) (fun w => enters_ Try.func94 (by kernel_rfl) rfl #[(.pointer (some ⟨p, 0, none⟩))] w) (T := [.word ⟨#[112, 114, 111, 99]⟩, .word ⟨#[64, 110, 97, 109, 101]⟩, .rule .r_params, .rule .r_typed, .word ⟨#[59]⟩, .rule .r_block, .word ⟨#[59]⟩]) (R := .r_declaration) (by rw [third HPRE.out HI1.out HI2.out]; rfl) (G_proc.body) HNN.out HX3.out); clear hb h3)
     | (go_at_call 55; (with_reducible refine Calls.mono HC3.out ?_); rintro e w3 ⟨rfl, ve3, h2, h3⟩; have HP3 := Lib.hid h2; have HS3 := Lib.hid (HS2.out.trans h3); have HG3 := Lib.hid (mkeep (HT2.out.trans h3) HP0.out HG0.out (by decide) (by decide)); have HT3 := Lib.hid (HT2.out.trans h3); clear bx; have bx := cell_of_row _ _ 0 _ _ _ HG3.out; clear h2 h3))
    go_end0
    exact ⟨rfl, ve3, HP3.out, HS3.out⟩
   | err er jj =>
    have HX3 := Lib.hid h3
    have HI1 := Lib.hid hin1; have HI2 := Lib.hid hin2
    have HC1 := Lib.hid ((by have h := is_new HP0.out [⟨#[118, 97, 114]⟩] 1 [.string ⟨#[118, 97, 114]⟩] rfl rfl (by decide) (by decide); rw [HI1.out] at h; exact h))
    clear h3 hin1 hin2
    (try clear hr)
    go_enter Try.func74, Try.ntmps74
    go_upto_region 2 with (fail)
    rw [HWB.out, HGE.out]
    go_wp2_with (first
     | (go_at_call 71; (with_reducible refine Calls.mono HC1.out ?_); rintro e w1 ⟨rfl, hb⟩; have h3 : MStep p ve w0 ve w1 := PStep.below hb; have HP1 := Lib.hid (HP0.out.moved hb); have HS1 := Lib.hid (HS0.out.trans h3); have HG1 := Lib.hid (mkeep (HT0.out.trans h3) HP0.out HG0.out (by decide) (by decide)); have HT1 := Lib.hid (HT0.out.trans h3); clear bx; have bx := cell_of_row _ _ 0 _ _ _ HG1.out; have HC2 := Lib.hid ((by have h := is_new HP1.out [⟨#[99, 111, 110, 115, 116]⟩] 1 [.string ⟨#[99, 111, 110, 115, 116]⟩] rfl rfl (by decide) (by decide); rw [HI2.out] at h; exact h)); clear hb h3)
     | (go_at_call 71; (with_reducible refine Calls.mono HC2.out ?_); rintro e w2 ⟨rfl, hb⟩; have h3 : MStep p ve w1 ve w2 := PStep.below hb; have HP2 := Lib.hid (HP1.out.moved hb); have HS2 := Lib.hid (HS1.out.trans h3); have HG2 := Lib.hid (mkeep (HT1.out.trans h3) HP0.out HG0.out (by decide) (by decide)); have HT2 := Lib.hid (HT1.out.trans h3); clear bx; have bx := cell_of_row _ _ 0 _ _ _ HG2.out; have HC3 := Lib.hid (node_rule HP2.out 5 5 rfl (.func (.func 94) #[.pointer (some ⟨p, 0, none⟩)] #[]) 94 (.pointer (some ⟨p, 0, none⟩)) (.inl rfl) (fun w => enters_ Try.func94 (by kernel_rfl) rfl #[(.pointer (some ⟨p, 0, none⟩))] w) (T := [.word ⟨#[112, 114, 111, 99]⟩, .word ⟨#[64, 110, 97, 109, 101]⟩, .rule .r_params, .rule .r_typed, .word ⟨#[59]⟩, .rule .r_block, .word ⟨#[59]⟩]) (R := .r_declaration) (by rw [third HPRE.out HI1.out HI2.out]; rfl) (G_proc.body) HNN.out HX3.out); clear hb h3)
     | (go_at_call 55; (with_reducible refine Calls.mono HC3.out ?_); rintro e w3 ⟨rfl, ve3, h3⟩; have HS3 := Lib.hid (HS2.out.trans h3); clear h3))
    exact ⟨rfl, rfl, ve3, HS3.out⟩
end Go.Proofs.Ytmjbpgnjgblnmaa
