/- What the claim stands on: part Jl. -/
import Derived.Test.YtmjbpgnjgblnmaaJf
set_option linter.unusedVariables false
set_option linter.unusedSimpArgs false
namespace Go.Proofs.Ytmjbpgnjgblnmaa
open Go.RowKit Go.Proofs.YtmjbpgnjgblnmaaW.PrintWords Go.Proofs.YtmjbpgnjgblnmaaW.PrintLast Go.Proofs.YtmjbpgnjgblnmaaW.PrintMore
theorem sel_29 {cc : ByteArray} (h : cc = ⟨#[91]⟩) {k : Nat} {T : List WT} (he : RId.expand .r_selected cc = some [.push [.rule .r_selected], .opn k T]) : k = 29 ∧ T = [.word ⟨#[91]⟩, .rule .r_expr, .rule .r_exprs, .word ⟨#[93]⟩] := by
 subst h
 have h2 : some [Eff.push [.rule .r_selected], .opn 29 [.word ⟨#[91]⟩, .rule .r_expr, .rule .r_exprs, .word ⟨#[93]⟩]] = some [.push [.rule .r_selected], .opn k T] := he
 injection h2 with h2; injection h2 with _ h2; injection h2 with h2 _; injection h2 with h3 h4
 exact ⟨h3.symm, h4.symm⟩
theorem sel_30 {cc : ByteArray} (h : cc = ⟨#[46]⟩) {k : Nat} {T : List WT} (he : RId.expand .r_selected cc = some [.push [.rule .r_selected], .opn k T]) : k = 30 ∧ T = [.word ⟨#[46]⟩, .word ⟨#[64, 110, 97, 109, 101]⟩] := by
 subst h
 have h2 : some [Eff.push [.rule .r_selected], .opn 30 [.word ⟨#[46]⟩, .word ⟨#[64, 110, 97, 109, 101]⟩]] = some [.push [.rule .r_selected], .opn k T] := he
 injection h2 with h2; injection h2 with _ h2; injection h2 with h2 _; injection h2 with h3 h4
 exact ⟨h3.symm, h4.symm⟩
theorem sel_31 {cc : ByteArray} (h : cc = ⟨#[40]⟩) {k : Nat} {T : List WT} (he : RId.expand .r_selected cc = some [.push [.rule .r_selected], .opn k T]) : k = 31 ∧ T = [.word ⟨#[40]⟩, .rule .r_args, .word ⟨#[41]⟩] := by
 subst h
 have h2 : some [Eff.push [.rule .r_selected], .opn 31 [.word ⟨#[40]⟩, .rule .r_args, .word ⟨#[41]⟩]] = some [.push [.rule .r_selected], .opn k T] := he
 injection h2 with h2; injection h2 with _ h2; injection h2 with h2 _; injection h2 with h3 h4
 exact ⟨h3.symm, h4.symm⟩
theorem sel_out {cc : ByteArray} {k : Nat} {T : List WT} (he : RId.expand .r_selected cc = some [.push [.rule .r_selected], .opn k T]) (h1 : inL cc [⟨#[91]⟩] = false) (h2 : inL cc [⟨#[46]⟩] = false) : cc = ⟨#[40]⟩ := by
 simp only [RId.expand] at he
 rw [if_neg (none_of h1 _ List.mem_cons_self), if_neg (none_of h2 _ List.mem_cons_self)] at he
 by_cases h3 : cc = ⟨#[40]⟩
 ·exact h3
 ·rw [if_neg h3] at he
  cases he
set_option maxRecDepth 100000 in
set_option maxHeartbeats 8000000 in
theorem g_selected (l : List Tk) (N : Nat) (G_selected_1 : GoodC l N 156 [.word ⟨#[91]⟩, .rule .r_expr, .rule .r_exprs, .word ⟨#[93]⟩]) (G_selected_2 : GoodC l N 157 [.word ⟨#[46]⟩, .word ⟨#[64, 110, 97, 109, 101]⟩]) (G_selected_3 : GoodC l N 158 [.word ⟨#[40]⟩, .rule .r_args, .word ⟨#[41]⟩]) : ∀ n, n ≤ N → ∀ (W0 : World) (A : Option Addr) (c : Nat) (w : World) (p i : Nat) (d : Int) (out : List Ev) (ve : Value) (r : SRes) (k : Nat) (T : List WT), SAt W0 A c l w p i d out ve → srun l n ⟨T ++ [.fin k], i, d + 1, out ++ [evOf (1, k)]⟩ = some r → RId.expand .r_selected (cAt l i) = some [.push [.rule .r_selected], .opn k T] → Calls Try.prog 143 #[.pointer (some ⟨p, 0, none⟩)] w (SPost W0 A c l p ve w r) := by
 intro n hn W0 A c w p i d out ve r k T H hr hex
 show Calls Try.prog 143 _ w _
 have HNN := Lib.hid hn
 have hr0 := hr
 clear hn hr
 obtain ⟨w0, hw0⟩ : ∃ V, w.alloc (.cells #[.pointer (some ⟨p, 0, none⟩)] 83) = V := ⟨_, rfl⟩
 have hb0 : Below w.heap.size w w0 := by rw [← hw0]; exact (Below.refl _ w).alloc (Nat.le_refl _) _
 have hg : w0.heap[w.heap.size]? = some (.cells #[.pointer (some ⟨p, 0, none⟩)] 83 (0, 0)) := by rw [← hw0]; exact World.alloc_heap_new _ _
 have HWB := Lib.hid hw0
 have HP0 := Lib.hid (H.moved hb0)
 have HS0 := Lib.hid (PStep.below hb0 : MStep p ve w ve w0)
 have HT0 := Lib.hid (PStep.refl p (.slice none 0 0) ve w0)
 obtain ⟨g, hge⟩ : ∃ g, w.heap.size = g := ⟨_, rfl⟩
 rw [hge] at hg
 have HGE := Lib.hid hge
 have HG0 := Lib.hid hg
 have bx := cell_of_row _ _ 0 _ _ _ hg
 clear hw0 hb0 hg hge H
 by_cases hin1' : inL (cAt l i) [⟨#[91]⟩] = true
 ·have hin1 := hin1'
  obtain ⟨rfl, rfl⟩ := sel_29 (one_of hin1) hex
  clear hin1' hex
  have h2 := hr0
  cases r with
  | ok i2 d2 out2 =>
   have HX2 := Lib.hid h2
   have HI1 := Lib.hid hin1
   have HC1 := Lib.hid ((by have h := is_new HP0.out [⟨#[91]⟩] 1 [.string ⟨#[91]⟩] rfl rfl (by decide) (by decide); rw [HI1.out] at h; exact h))
   clear h2 hin1
   (try clear hr)
   go_enter Try.func143, Try.ntmps143
   go_upto_region 2 with (fail)
   rw [HWB.out, HGE.out]
   go_wp2_with (first
    | (go_at_call 71; (with_reducible refine Calls.mono HC1.out ?_); rintro e w1 ⟨rfl, hb⟩; have h3 : MStep p ve w0 ve w1 := PStep.below hb; have HP1 := Lib.hid (HP0.out.moved hb); have HS1 := Lib.hid (HS0.out.trans h3); have HG1 := Lib.hid (mkeep (HT0.out.trans h3) HP0.out HG0.out (by decide) (by decide)); have HT1 := Lib.hid (HT0.out.trans h3); clear bx; have bx := cell_of_row _ _ 0 _ _ _ HG1.out; have HC2 := Lib.hid (node_new HP1.out 29 29 rfl (.func (.func 156) #[] #[.pointer (some ⟨g, 0, none⟩)]) 156 (.pointer (some ⟨g, 0, none⟩)) (.inr rfl) (fun w => enters_ Try.func156 (by kernel_rfl) rfl #[(.pointer (some ⟨g, 0, none⟩))] w) (T := [.word ⟨#[91]⟩, .rule .r_expr, .rule .r_exprs, .word ⟨#[93]⟩]) (G_selected_1.body HP1.out HG1.out) HNN.out HX2.out); clear hb h3)
    | (go_at_call 55; (with_reducible refine Calls.mono HC2.out ?_); rintro e w2 ⟨rfl, ve2, h2, h3⟩; have HP2 := Lib.hid h2; have HS2 := Lib.hid (HS1.out.trans h3); have HG2 := Lib.hid (mkeep (HT1.out.trans h3) HP0.out HG0.out (by decide) (by decide)); have HT2 := Lib.hid (HT1.out.trans h3); clear bx; have bx := cell_of_row _ _ 0 _ _ _ HG2.out; clear h2 h3))
   go_end0
   exact ⟨rfl, ve2, HP2.out, HS2.out⟩
  | err er jj =>
   have HX2 := Lib.hid h2
   have HI1 := Lib.hid hin1
   have HC1 := Lib.hid ((by have h := is_new HP0.out [⟨#[91]⟩] 1 [.string ⟨#[91]⟩] rfl rfl (by decide) (by decide); rw [HI1.out] at h; exact h))
   clear h2 hin1
   (try clear hr)
   go_enter Try.func143, Try.ntmps143
   go_upto_region 2 with (fail)
   rw [HWB.out, HGE.out]
   go_wp2_with (first
    | (go_at_call 71; (with_reducible refine Calls.mono HC1.out ?_); rintro e w1 ⟨rfl, hb⟩; have h3 : MStep p ve w0 ve w1 := PStep.below hb; have HP1 := Lib.hid (HP0.out.moved hb); have HS1 := Lib.hid (HS0.out.trans h3); have HG1 := Lib.hid (mkeep (HT0.out.trans h3) HP0.out HG0.out (by decide) (by decide)); have HT1 := Lib.hid (HT0.out.trans h3); clear bx; have bx := cell_of_row _ _ 0 _ _ _ HG1.out; have HC2 := Lib.hid (node_new HP1.out 29 29 rfl (.func (.func 156) #[] #[.pointer (some ⟨g, 0, none⟩)]) 156 (.pointer (some ⟨g, 0, none⟩)) (.inr rfl) (fun w => enters_ Try.func156 (by kernel_rfl) rfl #[(.pointer (some ⟨g, 0, none⟩))] w) (T := [.word ⟨#[91]⟩, .rule .r_expr, .rule .r_exprs, .word ⟨#[93]⟩]) (G_selected_1.body HP1.out HG1.out) HNN.out HX2.out); clear hb h3)
    | (go_at_call 55; (with_reducible refine Calls.mono HC2.out ?_); rintro e w2 ⟨rfl, ve2, h3⟩; have HS2 := Lib.hid (HS1.out.trans h3); clear h3))
   exact ⟨rfl, rfl, ve2, HS2.out⟩
 ·have hin1 : inL (cAt l i) [⟨#[91]⟩] = false := by simpa using hin1'
  clear hin1'
  by_cases hin2' : inL (cAt l i) [⟨#[46]⟩] = true
  ·have hin2 := hin2'
   obtain ⟨rfl, rfl⟩ := sel_30 (one_of hin2) hex
   clear hin2' hex
   have h3 := hr0
   cases r with
   | ok i3 d3 out3 =>
    have HX3 := Lib.hid h3
    have HI1 := Lib.hid hin1; have HI2 := Lib.hid hin2
    have HC1 := Lib.hid ((by have h := is_new HP0.out [⟨#[91]⟩] 1 [.string ⟨#[91]⟩] rfl rfl (by decide) (by decide); rw [HI1.out] at h; exact h))
    clear h3 hin1 hin2
    (try clear hr)
    go_enter Try.func143, Try.ntmps143
    go_upto_region 2 with (fail)
    rw [HWB.out, HGE.out]
    go_wp2_with (first
     | (go_at_call 71; (with_reducible refine Calls.mono HC1.out ?_); rintro e w1 ⟨rfl, hb⟩; have h3 : MStep p ve w0 ve w1 := PStep.below hb; have HP1 := Lib.hid (HP0.out.moved hb); have HS1 := Lib.hid (HS0.out.trans h3); have HG1 := Lib.hid (mkeep (HT0.out.trans h3) HP0.out HG0.out (by decide) (by decide)); have HT1 := Lib.hid (HT0.out.trans h3); clear bx; have bx := cell_of_row _ _ 0 _ _ _ HG1.out; have HC2 := Lib.hid ((by have h := is_new HP1.out [⟨#[46]⟩] 1 [.string ⟨#[46]⟩] rfl rfl (by decide) (by decide); rw [HI2.out] at h; exact h)); clear hb h3)
     | (go_at_call 71; (with_reducible refine Calls.mono HC2.out ?_); rintro e w2 ⟨rfl, hb⟩; have h3 : MStep p ve w1 ve w2 := PStep.below hb; have HP2 := Lib.hid (HP1.out.moved hb); have HS2 := Lib.hid (HS1.out.trans h3); have HG2 := Lib.hid (mkeep (HT1.out.trans h3) HP0.out HG0.out (by decide) (by decide)); have HT2 := Lib.hid (HT1.out.trans h3); clear bx; have bx := cell_of_row _ _ 0 _ _ _ HG2.out; have HC3 := Lib.hid (node_new HP2.out 30 30 rfl (.func (.func 157) #[] #[.pointer (some ⟨g, 0, none⟩)]) 157 (.pointer (some ⟨g, 0, none⟩)) (.inr rfl) (fun w => enters_ Try.func157 (by kernel_rfl) rfl #[(.pointer (some ⟨g, 0, none⟩))] w) (T := [.word ⟨#[46]⟩, .word ⟨#[64, 110, 97, 109, 101]⟩]) (G_selected_2.body HP2.out HG2.out) HNN.out HX3.out); clear hb h3)
     | (go_at_call 55; (with_reducible refine Calls.mono HC3.out ?_); rintro e w3 ⟨rfl, ve3, h2, h3⟩; have HP3 := Lib.hid h2; have HS3 := Lib.hid (HS2.out.trans h3); have HG3 := Lib.hid (mkeep (HT2.out.trans h3) HP0.out HG0.out (by decide) (by decide)); have HT3 := Lib.hid (HT2.out.trans h3); clear bx; have bx := cell_of_row _ _ 0 _ _ _ HG3.out; clear h2 h3))
    go_end0
    exact ⟨rfl, ve3, HP3.out, HS3.out⟩
   | err er jj =>
    have HX3 := Lib.hid h3
    have HI1 := Lib.hid hin1; have HI2 := Lib.hid hin2
    have HC1 := Lib.hid ((by have h := is_new HP0.out [⟨#[91]⟩] 1 [.string ⟨#[91]⟩] rfl rfl (by decide) (by decide); rw [HI1.out] at h; exact h))
    clear h3 hin1 hin2
    (try clear hr)
    go_enter Try.func143, Try.ntmps143
    go_upto_region 2 with (fail)
    rw [HWB.out, HGE.out]
    go_wp2_with (first
     | (go_at_call 71; (with_reducible refine Calls.mono HC1.out ?_); rintro e w1 ⟨rfl, hb⟩; have h3 : MStep p ve w0 ve w1 := PStep.below hb; have HP1 := Lib.hid (HP0.out.moved hb); have HS1 := Lib.hid (HS0.out.trans h3); have HG1 := Lib.hid (mkeep (HT0.out.trans h3) HP0.out HG0.out (by decide) (by decide)); have HT1 := Lib.hid (HT0.out.trans h3); clear bx; have bx := cell_of_row _ _ 0 _ _ _ HG1.out; have HC2 := Lib.hid ((by have h := is_new HP1.out [⟨#[46]⟩] 1 [.string ⟨#[46]⟩] rfl rfl (by decide) (by decide); rw [HI2.out] at h; exact h)); clear hb h3)
     | (go_at_call 71; (with_reducible refine Calls.mono HC2.out ?_); rintro e w2 ⟨rfl, hb⟩; have h3 : MStep p ve w1 ve w2 := PStep.below hb; have HP2 := Lib.hid (HP1.out.moved hb); have HS2 := Lib.hid (HS1.out.trans h3); have HG2 := Lib.hid (mkeep (HT1.out.trans h3) HP0.out HG0.out (by decide) (by decide)); have HT2 := Lib.hid (HT1.out.trans h3); clear bx; have bx := cell_of_row _ _ 0 _ _ _ HG2.out; have HC3 := Lib.hid (node_new HP2.out 30 30 rfl (.func (.func 157) #[] #[.pointer (some ⟨g, 0, none⟩)]) 157 (.pointer (some ⟨g, 0, none⟩)) (.inr rfl) (fun w => enters_ Try.func157 (by kernel_rfl) rfl #[(.pointer (some ⟨g, 0, none⟩))] w) (T := [.word ⟨#[46]⟩, .word ⟨#[64, 110, 97, 109, 101]⟩]) (G_selected_2.body HP2.out HG2.out) HNN.out HX3.out); clear hb h3)
     | (go_at_call 55; (with_reducible refine Calls.mono HC3.out ?_); rintro e w3 ⟨rfl, ve3, h3⟩; have HS3 := Lib.hid (HS2.out.trans h3); clear h3))
    exact ⟨rfl, rfl, ve3, HS3.out⟩
  ·have hin2 : inL (cAt l i) [⟨#[46]⟩] = false := by simpa using hin2'
   obtain ⟨rfl, rfl⟩ := sel_31 (sel_out hex hin1 hin2) hex
   clear hin2' hex
   have h3 := hr0
   cases r with
   | ok i3 d3 out3 =>
    have HX3 := Lib.hid h3
    have HI1 := Lib.hid hin1; have HI2 := Lib.hid hin2
    have HC1 := Lib.hid ((by have h := is_new HP0.out [⟨#[91]⟩] 1 [.string ⟨#[91]⟩] rfl rfl (by decide) (by decide); rw [HI1.out] at h; exact h))
    clear h3 hin1 hin2
    (try clear hr)
    go_enter Try.func143, Try.ntmps143
    go_upto_region 2 with (fail)
    rw [HWB.out, HGE.out]
    go_wp2_with (first
     | (go_at_call 71; (with_reducible refine Calls.mono HC1.out ?_); rintro e w1 ⟨rfl, hb⟩; have h3 : MStep p ve w0 ve w1 := PStep.below hb; have HP1 := Lib.hid (HP0.out.moved hb); have HS1 := Lib.hid (HS0.out.trans h3); have HG1 := Lib.hid (mkeep (HT0.out.trans h3) HP0.out HG0.out (by decide) (by decide)); have HT1 := Lib.hid (HT0.out.trans h3); clear bx; have bx := cell_of_row _ _ 0 _ _ _ HG1.out; have HC2 := Lib.hid ((by have h := is_new HP1.out [⟨#[46]⟩] 1 [.string ⟨#[46]⟩] rfl rfl (by decide) (by decide); rw [HI2.out] at h; exact h)); clear hb h3)
     | (go_at_call 71; (with_reducible refine Calls.mono HC2.out ?_); rintro e w2 ⟨rfl, hb⟩; have h3 : MStep p ve w1 ve w2 := PStep.below hb; have HP2 := Lib.hid (HP1.out.moved hb); have HS2 := Lib.hid (HS1.out.trans h3); have HG2 := Lib.hid (mkeep (HT1.out.trans h3) HP0.out HG0.out (by decide) (by decide)); have HT2 := Lib.hid (HT1.out.trans h3); clear bx; have bx := cell_of_row _ _ 0 _ _ _ HG2.out; have HC3 := Lib.hid (node_new HP2.out 31 31 rfl (.func (.func 158) #[] #[.pointer (some ⟨g, 0, none⟩)]) 158 (.pointer (some ⟨g, 0, none⟩)) (.inr rfl) (fun w => enters_ Try.func158 (by kernel_rfl) rfl #[(.pointer (some ⟨g, 0, none⟩))] w) (T := [.word ⟨#[40]⟩, .rule .r_args, .word ⟨#[41]⟩]) (G_selected_3.body HP2.out HG2.out) HNN.out HX3.out); clear hb h3)
     | (go_at_call 55; (with_reducible refine Calls.mono HC3.out ?_); rintro e w3 ⟨rfl, ve3, h2, h3⟩; have HP3 := Lib.hid h2; have HS3 := Lib.hid (HS2.out.trans h3); have HG3 := Lib.hid (mkeep (HT2.out.trans h3) HP0.out HG0.out (by decide) (by decide)); have HT3 := Lib.hid (HT2.out.trans h3); clear bx; have bx := cell_of_row _ _ 0 _ _ _ HG3.out; clear h2 h3))
    go_end0
    exact ⟨rfl, ve3, HP3.out, HS3.out⟩
   | err er jj =>
    have HX3 := Lib.hid h3
    have HI1 := Lib.hid hin1; have HI2 := Lib.hid hin2
    have HC1 := Lib.hid ((by have h := is_new HP0.out [⟨#[91]⟩] 1 [.string ⟨#[91]⟩] rfl rfl (by decide) (by decide); rw [HI1.out] at h; exact h))
    clear h3 hin1 hin2
    (try clear hr)
    go_enter Try.func143, Try.ntmps143
    go_upto_region 2 with (fail)
    rw [HWB.out, HGE.out]
    go_wp2_with (first
     | (go_at_call 71; (with_reducible refine Calls.mono HC1.out ?_); rintro e w1 ⟨rfl, hb⟩; have h3 : MStep p ve w0 ve w1 := PStep.below hb; have HP1 := Lib.hid (HP0.out.moved hb); have HS1 := Lib.hid (HS0.out.trans h3); have HG1 := Lib.hid (mkeep (HT0.out.trans h3) HP0.out HG0.out (by decide) (by decide)); have HT1 := Lib.hid (HT0.out.trans h3); clear bx; have bx := cell_of_row _ _ 0 _ _ _ HG1.out; have HC2 := Lib.hid ((by have h := is_new HP1.out [⟨#[46]⟩] 1 [.string ⟨#[46]⟩] rfl rfl (by decide) (by decide); rw [HI2.out] at h; exact h)); clear hb h3)
     | (go_at_call 71; (with_reducible refine Calls.mono HC2.out ?_); rintro e w2 ⟨rfl, hb⟩; have h3 : MStep p ve w1 ve w2 := PStep.below hb; have HP2 := Lib.hid (HP1.out.moved hb); have HS2 := Lib.hid (HS1.out.trans h3); have HG2 := Lib.hid (mkeep (HT1.out.trans h3) HP0.out HG0.out (by decide) (by decide)); have HT2 := Lib.hid (HT1.out.trans h3); clear bx; have bx := cell_of_row _ _ 0 _ _ _ HG2.out; have HC3 := Lib.hid (node_new HP2.out 31 31 rfl (.func (.func 158) #[] #[.pointer (some ⟨g, 0, none⟩)]) 158 (.pointer (some ⟨g, 0, none⟩)) (.inr rfl) (fun w => enters_ Try.func158 (by kernel_rfl) rfl #[(.pointer (some ⟨g, 0, none⟩))] w) (T := [.word ⟨#[40]⟩, .rule .r_args, .word ⟨#[41]⟩]) (G_selected_3.body HP2.out HG2.out) HNN.out HX3.out); clear hb h3)
     | (go_at_call 55; (with_reducible refine Calls.mono HC3.out ?_); rintro e w3 ⟨rfl, ve3, h3⟩; have HS3 := Lib.hid (HS2.out.trans h3); clear h3))
    exact ⟨rfl, rfl, ve3, HS3.out⟩
end Go.Proofs.Ytmjbpgnjgblnmaa
namespace Go.Proofs.Ytmjbpgnjgblnmaa
open Go.RowKit Go.Proofs.YtmjbpgnjgblnmaaW.PrintWords Go.Proofs.YtmjbpgnjgblnmaaW.PrintLast Go.Proofs.YtmjbpgnjgblnmaaW.PrintMore
section
variable {l : List Tk} {n : Nat} {R : RId} {S T : List WT} {i : Nat} {d : Int} {out : List Ev} {r : SRes}
theorem round_push (he : R.expand (cAt l i) = some [.push T]) (hr : srun l (n + 1) ⟨.rule R :: S, i, d, out⟩ = some r) : srun l n ⟨T ++ S, i, d, out⟩ = some r := by
 obtain ⟨_, m, hm, h⟩ := srun_on hr (s' := ⟨T ++ S, i, d, out⟩) (by simp [sstep, he, effs, Eff.act])
 obtain rfl : n = m := by omega
 exact h
theorem round_opn {R2 : RId} {k : Nat} (he : R.expand (cAt l i) = some [.push [.rule R2], .opn k T]) (hr : srun l (n + 1) ⟨.rule R :: S, i, d, out⟩ = some r) : srun l n ⟨(T ++ [.fin k]) ++ (.rule R2 :: S), i, d + 1, out ++ [evOf (1, k)]⟩ = some r := by
 obtain ⟨_, m, hm, h⟩ := srun_on hr (s' := ⟨(T ++ [.fin k]) ++ (.rule R2 :: S), i, d + 1, out ++ [evOf (1, k)]⟩) (by simp [sstep, he, effs, Eff.act])
 obtain rfl : n = m := by omega
 exact h
end
theorem sel_exp {cc : ByteArray} (h : inL cc [⟨#[91]⟩, ⟨#[46]⟩, ⟨#[40]⟩] = true) : ∃ k T, RId.expand .r_selected cc = some [.push [.rule .r_selected], .opn k T] := by
 have hm := (inL_iff _ _).1 h
 simp only [List.mem_cons, List.not_mem_nil, or_false] at hm
 rcases hm with rfl | rfl | rfl <;> exact ⟨_, _, rfl⟩
theorem sel_no {cc : ByteArray} (h : inL cc [⟨#[91]⟩, ⟨#[46]⟩, ⟨#[40]⟩] = false) : RId.expand .r_selected cc = some [] := by
 simp only [RId.expand]
 rw [if_neg (none_of h _ (by simp)), if_neg (none_of h _ (by simp)), if_neg (none_of h _ (by simp))]
set_option maxRecDepth 100000 in
set_option maxHeartbeats 8000000 in
theorem g_object_1 (l : List Tk) (N : Nat) (G_selected : ∀ n, n ≤ N → ∀ (W0 : World) (A : Option Addr) (c : Nat) (w : World) (p i : Nat) (d : Int) (out : List Ev) (ve : Value) (r : SRes) (k : Nat) (T : List WT), SAt W0 A c l w p i d out ve → srun l n ⟨T ++ [.fin k], i, d + 1, out ++ [evOf (1, k)]⟩ = some r → RId.expand .r_selected (cAt l i) = some [.push [.rule .r_selected], .opn k T] → Calls Try.prog 143 #[.pointer (some ⟨p, 0, none⟩)] w (SPost W0 A c l p ve w r)) : GoodC l N 142 [.word ⟨#[64, 110, 97, 109, 101]⟩, .rule .r_selected] := by
 intro n hn W0 A c w0 p g i d out ve r H hg hr
 show Calls Try.prog 142 _ w0 _
 have HP0 := Lib.hid H
 have HG0 := Lib.hid hg
 have HNN := Lib.hid hn
 have HS0 := Lib.hid (PStep.refl p (.slice none 0 0) ve w0)
 have HT0 := HS0
 have bx := cell_of_row _ _ 0 _ _ _ hg
 have hr0 : srun l n ⟨([.word ⟨#[64, 110, 97, 109, 101]⟩] ++ [.rule .r_selected]), i, d, out⟩ = some r := hr
 clear H hg hn hr
 rcases srun_app l n [.word ⟨#[64, 110, 97, 109, 101]⟩] [.rule .r_selected] i d out r hr0 with ⟨er, jj, rfl, h1⟩ | ⟨i1, d1, out1, h1, hr1⟩
 ·skip
  have HX1 := Lib.hid h1
  have HC1 := Lib.hid (name_any l N n HNN.out W0 A c w0 p i d out ve _ HP0.out HX1.out)
  clear h1
  (try clear hr)
  go_enter Try.func142, Try.ntmps142
  go_wp2_with (first
   | (go_at_call 59; (with_reducible refine Calls.mono HC1.out ?_); rintro e w1 ⟨rfl, ve1, h3⟩; have HS1 := Lib.hid (HS0.out.trans h3); clear h3))
  exact ⟨rfl, rfl, ve1, HS1.out⟩
 ·skip
  have HRJ := Lib.hid hr1
  clear hr1
  have HX1 := Lib.hid h1
  have HC1 := Lib.hid (name_any l N n HNN.out W0 A c w0 p i d out ve _ HP0.out HX1.out)
  clear h1
  (try clear hr)
  go_enter Try.func142, Try.ntmps142
  go_wp2_with (first
   | (go_at_call 59; (with_reducible refine Calls.mono HC1.out ?_); rintro e w1 ⟨rfl, ve1, h2, h3⟩; have HP1 := Lib.hid h2; have HS1 := Lib.hid (HS0.out.trans h3); have HG1 := Lib.hid (mkeep (HT0.out.trans h3) HP0.out HG0.out (by decide) (by decide)); have HT1 := Lib.hid (HT0.out.trans h3); clear bx; have bx := cell_of_row _ _ 0 _ _ _ HG1.out; clear h2 h3))
  have HI0 : Hid (SAt W0 A c l w1 p i1 d1 out1 ve1 ∧ MStep p ve w0 ve1 w1 ∧ srun l n ⟨(.rule .r_selected :: []), i1, d1, out1⟩ = some r) := Lib.hid ⟨HP1.out, HS1.out, HRJ.out⟩
  clear HP1 HS1 HG1 HT1
  clear HRJ
  go_loopg [3] n (fun kq vx wr => Hid (∃ i' d' out' ve', SAt W0 A c l wr p i' d' out' ve' ∧ MStep p ve w0 ve' wr ∧ kq ≤ n ∧ srun l kq ⟨(.rule .r_selected :: []), i', d', out'⟩ = some r))
  case atStart => exact Lib.hid ⟨_, _, _, _, HI0.out.1, HI0.out.2.1, Nat.le_refl _, HI0.out.2.2⟩
  case round =>
   obtain ⟨i', d', out', ve', hA, hS, hkn, hrun⟩ := hrel.out
   clear HI0 hrel
   cases gk with
   | zero => exact absurd hrun (by simp [srun])
   | succ m =>
    have HPR := Lib.hid hA
    have HSR := Lib.hid hS
    have HGR := Lib.hid (mkeep hS HP0.out HG0.out (by decide) (by decide))
    have HTR := HSR
    have bx := cell_of_row _ _ 0 _ _ _ HGR.out
    have HM1 : Hid (m + 1 ≤ N) := Lib.hid (Nat.le_trans hkn HNN.out)
    have HMN : Hid (m ≤ N) := Lib.hid (Nat.le_trans (Nat.le_succ m) HM1.out)
    have HKN : Hid (m ≤ n) := Lib.hid (Nat.le_trans (Nat.le_succ m) hkn)
    clear hA hS hkn
    by_cases hin2' : inL (cAt l i') [⟨#[91]⟩, ⟨#[46]⟩, ⟨#[40]⟩] = true
    ·have hin2 := hin2'
     clear hin2'
     obtain ⟨k, T, hex⟩ := sel_exp hin2
     have hr2 := round_opn hex hrun
     have HEX := Lib.hid hex
     clear hrun hex
     rcases srun_app l m (T ++ [.fin k]) [.rule .r_selected] i' (d' + 1) (out' ++ [evOf (1, k)]) r hr2 with ⟨er, jj, rfl, h3⟩ | ⟨i3, d3, out3, h3, hr3⟩
     ·skip
      have HX3 := Lib.hid h3
      have HI2 := Lib.hid hin2
      have HC2 := Lib.hid ((by have h := is_new HPR.out [⟨#[91]⟩, ⟨#[46]⟩, ⟨#[40]⟩] 3 [.string ⟨#[91]⟩, .string ⟨#[46]⟩, .string ⟨#[40]⟩] rfl rfl (by decide) (by decide); rw [HI2.out] at h; exact h))
      clear h3 hin2
      (try clear hr)
      go_wp2_with (first
       | (go_at_call 71; (with_reducible refine Calls.mono HC2.out ?_); rintro e w2 ⟨rfl, hb⟩; have h3 : MStep p ve' wr ve' w2 := PStep.below hb; have HP2 := Lib.hid (HPR.out.moved hb); have HS2 := Lib.hid (HSR.out.trans h3); have HG2 := Lib.hid (mkeep (HTR.out.trans h3) HP0.out HG0.out (by decide) (by decide)); have HT2 := Lib.hid (HTR.out.trans h3); clear bx; have bx := cell_of_row _ _ 0 _ _ _ HG2.out; have HC3 := Lib.hid (G_selected m HMN.out W0 A c w2 p i' d' out' ve' _ k T HP2.out HX3.out HEX.out); clear hb h3)
       | (go_at_call 143; (with_reducible refine Calls.mono HC3.out ?_); rintro e w3 ⟨rfl, ve3, h3⟩; have HS3 := Lib.hid (HS2.out.trans h3); clear h3))
      exact ⟨rfl, rfl, ve3, HS3.out⟩
     ·skip
      have HRJ := Lib.hid hr3
      clear hr3
      have HX3 := Lib.hid h3
      have HI2 := Lib.hid hin2
      have HC2 := Lib.hid ((by have h := is_new HPR.out [⟨#[91]⟩, ⟨#[46]⟩, ⟨#[40]⟩] 3 [.string ⟨#[91]⟩, .string ⟨#[46]⟩, .string ⟨#[40]⟩] rfl rfl (by decide) (by decide); rw [HI2.out] at h; exact h))
      clear h3 hin2
      (try clear hr)
      go_wp2_with (first
       | (go_at_call 71; (with_reducible refine Calls.mono HC2.out ?_); rintro e w2 ⟨rfl, hb⟩; have h3 : MStep p ve' wr ve' w2 := PStep.below hb; have HP2 := Lib.hid (HPR.out.moved hb); have HS2 := Lib.hid (HSR.out.trans h3); have HG2 := Lib.hid (mkeep (HTR.out.trans h3) HP0.out HG0.out (by decide) (by decide)); have HT2 := Lib.hid (HTR.out.trans h3); clear bx; have bx := cell_of_row _ _ 0 _ _ _ HG2.out; have HC3 := Lib.hid (G_selected m HMN.out W0 A c w2 p i' d' out' ve' _ k T HP2.out HX3.out HEX.out); clear hb h3)
       | (go_at_call 143; (with_reducible refine Calls.mono HC3.out ?_); rintro e w3 ⟨rfl, ve3, h2, h3⟩; have HP3 := Lib.hid h2; have HS3 := Lib.hid (HS2.out.trans h3); have HG3 := Lib.hid (mkeep (HT2.out.trans h3) HP0.out HG0.out (by decide) (by decide)); have HT3 := Lib.hid (HT2.out.trans h3); clear bx; have bx := cell_of_row _ _ 0 _ _ _ HG3.out; clear h2 h3))
      go_roundg m
      case measure => omega
      case rel => exact Lib.hid ⟨_, _, _, _, HP3.out, HS3.out, HKN.out, HRJ.out⟩
    ·have hin2 : inL (cAt l i') [⟨#[91]⟩, ⟨#[46]⟩, ⟨#[40]⟩] = false := by simpa using hin2'
     clear hin2'
     have hr2 := if_no (sel_no hin2) hrun
     clear hrun
     obtain ⟨_, rfl⟩ := srun_fin hr2 (q := .ok i' d' out') rfl
     (try clear hr2)
     have HI2 := Lib.hid hin2
     have HC2 := Lib.hid ((by have h := is_new HPR.out [⟨#[91]⟩, ⟨#[46]⟩, ⟨#[40]⟩] 3 [.string ⟨#[91]⟩, .string ⟨#[46]⟩, .string ⟨#[40]⟩] rfl rfl (by decide) (by decide); rw [HI2.out] at h; exact h))
     clear hin2
     (try clear hr)
     go_wp2_with (first
      | (go_at_call 71; (with_reducible refine Calls.mono HC2.out ?_); rintro e w2 ⟨rfl, hb⟩; have h3 : MStep p ve' wr ve' w2 := PStep.below hb; have HP2 := Lib.hid (HPR.out.moved hb); have HS2 := Lib.hid (HSR.out.trans h3); have HG2 := Lib.hid (mkeep (HTR.out.trans h3) HP0.out HG0.out (by decide) (by decide)); have HT2 := Lib.hid (HTR.out.trans h3); clear bx; have bx := cell_of_row _ _ 0 _ _ _ HG2.out; clear hb h3))
     go_end0
     exact ⟨rfl, ve', HP2.out, HS2.out⟩
end Go.Proofs.Ytmjbpgnjgblnmaa
namespace Go.Proofs.Ytmjbpgnjgblnmaa
open Go.RowKit Go.Proofs.YtmjbpgnjgblnmaaW.PrintWords Go.Proofs.YtmjbpgnjgblnmaaW.PrintLast Go.Proofs.YtmjbpgnjgblnmaaW.PrintMore
theorem yes_declarations {cc : ByteArray} (h : inL cc [⟨#[118, 97, 114]⟩, ⟨#[99, 111, 110, 115, 116]⟩, ⟨#[112, 114, 111, 99]⟩] = true) : RId.expand .r_declarations cc = some [.push [.rule .r_declaration, .rule .r_declarations]] := by
 have h1 : cc = ⟨#[118, 97, 114]⟩ ∨ cc = ⟨#[99, 111, 110, 115, 116]⟩ ∨ cc = ⟨#[112, 114, 111, 99]⟩ := by simpa using (inL_iff _ _).1 h
 simp only [RId.expand]
 rw [if_pos h1]
theorem no_declarations {cc : ByteArray} (h : inL cc [⟨#[118, 97, 114]⟩, ⟨#[99, 111, 110, 115, 116]⟩, ⟨#[112, 114, 111, 99]⟩] = false) : RId.expand .r_declarations cc = some [] := by
 have h1 : ¬ (cc = ⟨#[118, 97, 114]⟩ ∨ cc = ⟨#[99, 111, 110, 115, 116]⟩ ∨ cc = ⟨#[112, 114, 111, 99]⟩) := fun hc => by
  have := (inL_iff cc [⟨#[118, 97, 114]⟩, ⟨#[99, 111, 110, 115, 116]⟩, ⟨#[112, 114, 111, 99]⟩]).2 (by simpa using hc)
  rw [this] at h
  cases h
 simp only [RId.expand]
 rw [if_neg h1]
set_option maxRecDepth 100000 in
set_option maxHeartbeats 8000000 in
theorem g_block_1 (l : List Tk) (N : Nat) (G_declaration : ∀ n, n ≤ N → ∀ (W0 : World) (A : Option Addr) (c : Nat) (w : World) (p i : Nat) (d : Int) (out : List Ev) (ve : Value) (r : SRes), SAt W0 A c l w p i d out ve → srun l n ⟨[.rule .r_declaration], i, d, out⟩ = some r → inL (cAt l i) [⟨#[118, 97, 114]⟩, ⟨#[99, 111, 110, 115, 116]⟩, ⟨#[112, 114, 111, 99]⟩] = true → Calls Try.prog 74 #[.pointer (some ⟨p, 0, none⟩)] w (SPost W0 A c l p ve w r)) (G_body : Good l N 75 [.rule .r_body]) : GoodC l N 73 [.rule .r_declarations, .word ⟨#[98, 101, 103, 105, 110]⟩, .rule .r_body, .word ⟨#[101, 110, 100]⟩] := by
 intro n hn W0 A c w0 p g i d out ve r H hg hr
 show Calls Try.prog 73 _ w0 _
 have HP0 := Lib.hid H
 have HG0 := Lib.hid hg
 have HNN := Lib.hid hn
 have HS0 := Lib.hid (PStep.refl p (.slice none 0 0) ve w0)
 have HT0 := HS0
 have bx := cell_of_row _ _ 0 _ _ _ hg
 have hr0 : srun l n ⟨(.rule .r_declarations :: ([.word ⟨#[98, 101, 103, 105, 110]⟩] ++ ([.rule .r_body] ++ [.word ⟨#[101, 110, 100]⟩]))), i, d, out⟩ = some r := hr
 clear H hg hn hr
 have HRJ := Lib.hid hr0
 clear hr0
 go_enter Try.func73, Try.ntmps73
 go_wp2
 have HI0 : Hid (SAt W0 A c l w0 p i d out ve ∧ MStep p ve w0 ve w0 ∧ srun l n ⟨(.rule .r_declarations :: ([.word ⟨#[98, 101, 103, 105, 110]⟩] ++ ([.rule .r_body] ++ [.word ⟨#[101, 110, 100]⟩]))), i, d, out⟩ = some r) := Lib.hid ⟨HP0.out, HS0.out, HRJ.out⟩
 skip
 clear HRJ
 go_loopg [1] n (fun kq vx wr => Hid (∃ i' d' out' ve', SAt W0 A c l wr p i' d' out' ve' ∧ MStep p ve w0 ve' wr ∧ kq ≤ n ∧ srun l kq ⟨(.rule .r_declarations :: ([.word ⟨#[98, 101, 103, 105, 110]⟩] ++ ([.rule .r_body] ++ [.word ⟨#[101, 110, 100]⟩]))), i', d', out'⟩ = some r))
 case atStart => exact Lib.hid ⟨_, _, _, _, HI0.out.1, HI0.out.2.1, Nat.le_refl _, HI0.out.2.2⟩
 case round =>
  obtain ⟨i', d', out', ve', hA, hS, hkn, hrun⟩ := hrel.out
  clear HI0 hrel
  cases gk with
  | zero => exact absurd hrun (by simp [srun])
  | succ m =>
   have HPR := Lib.hid hA
   have HSR := Lib.hid hS
   have HGR := Lib.hid (mkeep hS HP0.out HG0.out (by decide) (by decide))
   have HTR := HSR
   have bx := cell_of_row _ _ 0 _ _ _ HGR.out
   have HM1 : Hid (m + 1 ≤ N) := Lib.hid (Nat.le_trans hkn HNN.out)
   have HMN : Hid (m ≤ N) := Lib.hid (Nat.le_trans (Nat.le_succ m) HM1.out)
   have HKN : Hid (m ≤ n) := Lib.hid (Nat.le_trans (Nat.le_succ m) hkn)
   clear hA hS hkn
   by_cases hin1' : inL (cAt l i') [⟨#[118, 97, 114]⟩, ⟨#[99, 111, 110, 115, 116]⟩, ⟨#[112, 114, 111, 99]⟩] = true
   ·have hin1 := hin1'
    clear hin1'
    have hr1 : srun l m ⟨[.rule .r_declaration] ++ (.rule .r_declarations :: ([.word ⟨#[98, 101, 103, 105, 110]⟩] ++ ([.rule .r_body] ++ [.word ⟨#[101, 110, 100]⟩]))), i', d', out'⟩ = some r := round_push (S := ([.word ⟨#[98, 101, 103, 105, 110]⟩] ++ ([.rule .r_body] ++ [.word ⟨#[101, 110, 100]⟩]))) (yes_declarations hin1) hrun
    clear hrun
    rcases srun_app l m [.rule .r_declaration] [.rule .r_declarations, .word ⟨#[98, 101, 103, 105, 110]⟩, .rule .r_body, .word ⟨#[101, 110, 100]⟩] i' d' out' r hr1 with ⟨er, jj, rfl, h2⟩ | ⟨i2, d2, out2, h2, hr2⟩
    ·skip
     have HX2 := Lib.hid h2
     have HI1 := Lib.hid hin1
     have HC1 := Lib.hid ((by have h := is_new HPR.out [⟨#[118, 97, 114]⟩, ⟨#[99, 111, 110, 115, 116]⟩, ⟨#[112, 114, 111, 99]⟩] 3 [.string ⟨#[118, 97, 114]⟩, .string ⟨#[99, 111, 110, 115, 116]⟩, .string ⟨#[112, 114, 111, 99]⟩] rfl rfl (by decide) (by decide); rw [HI1.out] at h; exact h))
     clear h2 hin1
     (try clear hr)
     go_wp2_with (first
      | (go_at_call 71; (with_reducible refine Calls.mono HC1.out ?_); rintro e w1 ⟨rfl, hb⟩; have h3 : MStep p ve' wr ve' w1 := PStep.below hb; have HP1 := Lib.hid (HPR.out.moved hb); have HS1 := Lib.hid (HSR.out.trans h3); have HG1 := Lib.hid (mkeep (HTR.out.trans h3) HP0.out HG0.out (by decide) (by decide)); have HT1 := Lib.hid (HTR.out.trans h3); clear bx; have bx := cell_of_row _ _ 0 _ _ _ HG1.out; have HC2 := Lib.hid (G_declaration m HMN.out W0 A c w1 p i' d' out' ve' _ HP1.out HX2.out HI1.out); clear hb h3)
      | (go_at_call 74; (with_reducible refine Calls.mono HC2.out ?_); rintro e w2 ⟨rfl, ve2, h3⟩; have HS2 := Lib.hid (HS1.out.trans h3); clear h3))
     exact ⟨rfl, rfl, ve2, HS2.out⟩
    ·skip
     have HRJ := Lib.hid hr2
     clear hr2
     have HX2 := Lib.hid h2
     have HI1 := Lib.hid hin1
     have HC1 := Lib.hid ((by have h := is_new HPR.out [⟨#[118, 97, 114]⟩, ⟨#[99, 111, 110, 115, 116]⟩, ⟨#[112, 114, 111, 99]⟩] 3 [.string ⟨#[118, 97, 114]⟩, .string ⟨#[99, 111, 110, 115, 116]⟩, .string ⟨#[112, 114, 111, 99]⟩] rfl rfl (by decide) (by decide); rw [HI1.out] at h; exact h))
     clear h2 hin1
     (try clear hr)
     go_wp2_with (first
      | (go_at_call 71; (with_reducible refine Calls.mono HC1.out ?_); rintro e w1 ⟨rfl, hb⟩; have h3 : MStep p ve' wr ve' w1 := PStep.below hb; have HP1 := Lib.hid (HPR.out.moved hb); have HS1 := Lib.hid (HSR.out.trans h3); have HG1 := Lib.hid (mkeep (HTR.out.trans h3) HP0.out HG0.out (by decide) (by decide)); have HT1 := Lib.hid (HTR.out.trans h3); clear bx; have bx := cell_of_row _ _ 0 _ _ _ HG1.out; have HC2 := Lib.hid (G_declaration m HMN.out W0 A c w1 p i' d' out' ve' _ HP1.out HX2.out HI1.out); clear hb h3)
      | (go_at_call 74; (with_reducible refine Calls.mono HC2.out ?_); rintro e w2 ⟨rfl, ve2, h2, h3⟩; have HP2 := Lib.hid h2; have HS2 := Lib.hid (HS1.out.trans h3); have HG2 := Lib.hid (mkeep (HT1.out.trans h3) HP0.out HG0.out (by decide) (by decide)); have HT2 := Lib.hid (HT1.out.trans h3); clear bx; have bx := cell_of_row _ _ 0 _ _ _ HG2.out; clear h2 h3))
     go_roundg m
     case measure => omega
     case rel => exact Lib.hid ⟨_, _, _, _, HP2.out, HS2.out, HKN.out, HRJ.out⟩
   ·have hin1 : inL (cAt l i') [⟨#[118, 97, 114]⟩, ⟨#[99, 111, 110, 115, 116]⟩, ⟨#[112, 114, 111, 99]⟩] = false := by simpa using hin1'
    clear hin1'
    have hr1 := if_no (no_declarations hin1) hrun
    clear hrun
    rcases srun_app l (m + 1) [.word ⟨#[98, 101, 103, 105, 110]⟩] ([.rule .r_body] ++ [.word ⟨#[101, 110, 100]⟩]) i' d' out' r hr1 with ⟨er, jj, rfl, h2⟩ | ⟨i2, d2, out2, h2, hr2⟩
    ·skip
     have HX2 := Lib.hid h2
     have HI1 := Lib.hid hin1
     have HC1 := Lib.hid ((by have h := is_new HPR.out [⟨#[118, 97, 114]⟩, ⟨#[99, 111, 110, 115, 116]⟩, ⟨#[112, 114, 111, 99]⟩] 3 [.string ⟨#[118, 97, 114]⟩, .string ⟨#[99, 111, 110, 115, 116]⟩, .string ⟨#[112, 114, 111, 99]⟩] rfl rfl (by decide) (by decide); rw [HI1.out] at h; exact h))
     clear h2 hin1
     (try clear hr)
     go_wp2_with (first
      | (go_at_call 71; (with_reducible refine Calls.mono HC1.out ?_); rintro e w1 ⟨rfl, hb⟩; have h3 : MStep p ve' wr ve' w1 := PStep.below hb; have HP1 := Lib.hid (HPR.out.moved hb); have HS1 := Lib.hid (HSR.out.trans h3); have HG1 := Lib.hid (mkeep (HTR.out.trans h3) HP0.out HG0.out (by decide) (by decide)); have HT1 := Lib.hid (HTR.out.trans h3); clear bx; have bx := cell_of_row _ _ 0 _ _ _ HG1.out; have HC2 := Lib.hid (words_new HP1.out [⟨#[98, 101, 103, 105, 110]⟩] 1 [.string ⟨#[98, 101, 103, 105, 110]⟩] rfl rfl (by decide) (by decide) HX2.out); clear hb h3)
      | (go_at_call 58; (with_reducible refine Calls.mono HC2.out ?_); rintro e w2 ⟨rfl, ve2, h3⟩; have HS2 := Lib.hid (HS1.out.trans h3); clear h3))
     exact ⟨rfl, rfl, ve2, HS2.out⟩
    ·skip
     rcases srun_app l (m + 1) [.rule .r_body] [.word ⟨#[101, 110, 100]⟩] i2 d2 out2 r hr2 with ⟨er, jj, rfl, h3⟩ | ⟨i3, d3, out3, h3, hr3⟩
     ·skip
      have HX2 := Lib.hid h2; have HX3 := Lib.hid h3
      have HI1 := Lib.hid hin1
      have HC1 := Lib.hid ((by have h := is_new HPR.out [⟨#[118, 97, 114]⟩, ⟨#[99, 111, 110, 115, 116]⟩, ⟨#[112, 114, 111, 99]⟩] 3 [.string ⟨#[118, 97, 114]⟩, .string ⟨#[99, 111, 110, 115, 116]⟩, .string ⟨#[112, 114, 111, 99]⟩] rfl rfl (by decide) (by decide); rw [HI1.out] at h; exact h))
      clear h2 h3 hin1
      (try clear hr)
      go_wp2_with (first
       | (go_at_call 71; (with_reducible refine Calls.mono HC1.out ?_); rintro e w1 ⟨rfl, hb⟩; have h3 : MStep p ve' wr ve' w1 := PStep.below hb; have HP1 := Lib.hid (HPR.out.moved hb); have HS1 := Lib.hid (HSR.out.trans h3); have HG1 := Lib.hid (mkeep (HTR.out.trans h3) HP0.out HG0.out (by decide) (by decide)); have HT1 := Lib.hid (HTR.out.trans h3); clear bx; have bx := cell_of_row _ _ 0 _ _ _ HG1.out; have HC2 := Lib.hid (words_new HP1.out [⟨#[98, 101, 103, 105, 110]⟩] 1 [.string ⟨#[98, 101, 103, 105, 110]⟩] rfl rfl (by decide) (by decide) HX2.out); clear hb h3)
       | (go_at_call 58; (with_reducible refine Calls.mono HC2.out ?_); rintro e w2 ⟨rfl, ve2, h2, h3⟩; have HP2 := Lib.hid h2; have HS2 := Lib.hid (HS1.out.trans h3); have HG2 := Lib.hid (mkeep (HT1.out.trans h3) HP0.out HG0.out (by decide) (by decide)); have HT2 := Lib.hid (HT1.out.trans h3); clear bx; have bx := cell_of_row _ _ 0 _ _ _ HG2.out; have HC3 := Lib.hid (G_body (m + 1) HM1.out W0 A c w2 p i2 d2 out2 ve2 _ HP2.out HX3.out); clear h2 h3)
       | (go_at_call 75; (with_reducible refine Calls.mono HC3.out ?_); rintro e w3 ⟨rfl, ve3, h3⟩; have HS3 := Lib.hid (HS2.out.trans h3); clear h3))
      exact ⟨rfl, rfl, ve3, HS3.out⟩
     ·skip
      have h4 := hr3
      cases r with
      | ok i4 d4 out4 =>
       have HX2 := Lib.hid h2; have HX3 := Lib.hid h3; have HX4 := Lib.hid h4
       have HI1 := Lib.hid hin1
       have HC1 := Lib.hid ((by have h := is_new HPR.out [⟨#[118, 97, 114]⟩, ⟨#[99, 111, 110, 115, 116]⟩, ⟨#[112, 114, 111, 99]⟩] 3 [.string ⟨#[118, 97, 114]⟩, .string ⟨#[99, 111, 110, 115, 116]⟩, .string ⟨#[112, 114, 111, 99]⟩] rfl rfl (by decide) (by decide); rw [HI1.out] at h; exact h))
       clear h2 h3 h4 hin1
       (try clear hr)
       go_wp2_with (first
        | (go_at_call 71; (with_reducible refine Calls.mono HC1.out ?_); rintro e w1 ⟨rfl, hb⟩; have h3 : MStep p ve' wr ve' w1 := PStep.below hb; have HP1 := Lib.hid (HPR.out.moved hb); have HS1 := Lib.hid (HSR.out.trans h3); have HG1 := Lib.hid (mkeep (HTR.out.trans h3) HP0.out HG0.out (by decide) (by decide)); have HT1 := Lib.hid (HTR.out.trans h3); clear bx; have bx := cell_of_row _ _ 0 _ _ _ HG1.out; have HC2 := Lib.hid (words_new HP1.out [⟨#[98, 101, 103, 105, 110]⟩] 1 [.string ⟨#[98, 101, 103, 105, 110]⟩] rfl rfl (by decide) (by decide) HX2.out); clear hb h3)
        | (go_at_call 58; (with_reducible refine Calls.mono HC2.out ?_); rintro e w2 ⟨rfl, ve2, h2, h3⟩; have HP2 := Lib.hid h2; have HS2 := Lib.hid (HS1.out.trans h3); have HG2 := Lib.hid (mkeep (HT1.out.trans h3) HP0.out HG0.out (by decide) (by decide)); have HT2 := Lib.hid (HT1.out.trans h3); clear bx; have bx := cell_of_row _ _ 0 _ _ _ HG2.out; have HC3 := Lib.hid (G_body (m + 1) HM1.out W0 A c w2 p i2 d2 out2 ve2 _ HP2.out HX3.out); clear h2 h3)
        | (go_at_call 75; (with_reducible refine Calls.mono HC3.out ?_); rintro e w3 ⟨rfl, ve3, h2, h3⟩; have HP3 := Lib.hid h2; have HS3 := Lib.hid (HS2.out.trans h3); have HG3 := Lib.hid (mkeep (HT2.out.trans h3) HP0.out HG0.out (by decide) (by decide)); have HT3 := Lib.hid (HT2.out.trans h3); clear bx; have bx := cell_of_row _ _ 0 _ _ _ HG3.out; have HC4 := Lib.hid (words_new HP3.out [⟨#[101, 110, 100]⟩] 1 [.string ⟨#[101, 110, 100]⟩] rfl rfl (by decide) (by decide) HX4.out); clear h2 h3)
        | (go_at_call 58; (with_reducible refine Calls.mono HC4.out ?_); rintro e w4 ⟨rfl, ve4, h2, h3⟩; have HP4 := Lib.hid h2; have HS4 := Lib.hid (HS3.out.trans h3); have HG4 := Lib.hid (mkeep (HT3.out.trans h3) HP0.out HG0.out (by decide) (by decide)); have HT4 := Lib.hid (HT3.out.trans h3); clear bx; have bx := cell_of_row _ _ 0 _ _ _ HG4.out; clear h2 h3))
       go_end0
       exact ⟨rfl, ve4, HP4.out, HS4.out⟩
      | err er jj =>
       have HX2 := Lib.hid h2; have HX3 := Lib.hid h3; have HX4 := Lib.hid h4
       have HI1 := Lib.hid hin1
       have HC1 := Lib.hid ((by have h := is_new HPR.out [⟨#[118, 97, 114]⟩, ⟨#[99, 111, 110, 115, 116]⟩, ⟨#[112, 114, 111, 99]⟩] 3 [.string ⟨#[118, 97, 114]⟩, .string ⟨#[99, 111, 110, 115, 116]⟩, .string ⟨#[112, 114, 111, 99]⟩] rfl rfl (by decide) (by decide); rw [HI1.out] at h; exact h))
       clear h2 h3 h4 hin1
       (try clear hr)
       go_wp2_with (first
        | (go_at_call 71; (with_reducible refine Calls.mono HC1.out ?_); rintro e w1 ⟨rfl, hb⟩; have h3 : MStep p ve' wr ve' w1 := PStep.below hb; have HP1 := Lib.hid (HPR.out.moved hb); have HS1 := Lib.hid (HSR.out.trans h3); have HG1 := Lib.hid (mkeep (HTR.out.trans h3) HP0.out HG0.out (by decide) (by decide)); have HT1 := Lib.hid (HTR.out.trans h3); clear bx; have bx := cell_of_row _ _ 0 _ _ _ HG1.out; have HC2 := Lib.hid (words_new HP1.out [⟨#[98, 101, 103, 105, 110]⟩] 1 [.string ⟨#[98, 101, 103, 105, 110]⟩] rfl rfl (by decide) (by decide) HX2.out); clear hb h3)
        | (go_at_call 58; (with_reducible refine Calls.mono HC2.out ?_); rintro e w2 ⟨rfl, ve2, h2, h3⟩; have HP2 := Lib.hid h2; have HS2 := Lib.hid (HS1.out.trans h3); have HG2 := Lib.hid (mkeep (HT1.out.trans h3) HP0.out HG0.out (by decide) (by decide)); have HT2 := Lib.hid (HT1.out.trans h3); clear bx; have bx := cell_of_row _ _ 0 _ _ _ HG2.out; have HC3 := Lib.hid (G_body (m + 1) HM1.out W0 A c w2 p i2 d2 out2 ve2 _ HP2.out HX3.out); clear h2 h3)
        | (go_at_call 75; (with_reducible refine Calls.mono HC3.out ?_); rintro e w3 ⟨rfl, ve3, h2, h3⟩; have HP3 := Lib.hid h2; have HS3 := Lib.hid (HS2.out.trans h3); have HG3 := Lib.hid (mkeep (HT2.out.trans h3) HP0.out HG0.out (by decide) (by decide)); have HT3 := Lib.hid (HT2.out.trans h3); clear bx; have bx := cell_of_row _ _ 0 _ _ _ HG3.out; have HC4 := Lib.hid (words_new HP3.out [⟨#[101, 110, 100]⟩] 1 [.string ⟨#[101, 110, 100]⟩] rfl rfl (by decide) (by decide) HX4.out); clear h2 h3)
        | (go_at_call 58; (with_reducible refine Calls.mono HC4.out ?_); rintro e w4 ⟨rfl, ve4, h3⟩; have HS4 := Lib.hid (HS3.out.trans h3); clear h3))
       exact ⟨rfl, rfl, ve4, HS4.out⟩
end Go.Proofs.Ytmjbpgnjgblnmaa
namespace Go.Proofs.Ytmjbpgnjgblnmaa
open Go.RowKit Go.Proofs.YtmjbpgnjgblnmaaW.PrintWords Go.Proofs.YtmjbpgnjgblnmaaW.PrintLast Go.Proofs.YtmjbpgnjgblnmaaW.PrintMore
theorem yes_elif {cc : ByteArray} (h : inL cc [⟨#[101, 108, 105, 102]⟩] = true) : RId.expand .r_elses cc = some [.push [.word ⟨#[101, 108, 105, 102]⟩, .rule .r_expr, .word ⟨#[116, 104, 101, 110]⟩, .rule .r_body, .rule .r_elses]] := by
 rw [one_of h]
 rfl
theorem yes_elses {cc : ByteArray} (h : inL cc [⟨#[101, 108, 115, 101]⟩] = true) : RId.expand .r_elses cc = some [.push [.word ⟨#[101, 108, 115, 101]⟩, .rule .r_body]] := by
 rw [one_of h]
 rfl
theorem no_elses {cc : ByteArray} (h0 : inL cc [⟨#[101, 108, 105, 102]⟩] = false) (h : inL cc [⟨#[101, 108, 115, 101]⟩] = false) : RId.expand .r_elses cc = some [] := by
 simp only [RId.expand]
 rw [if_neg (none_of h0 _ List.mem_cons_self), if_neg (none_of h _ List.mem_cons_self)]
set_option maxRecDepth 100000 in
set_option maxHeartbeats 8000000 in
theorem g_choice (l : List Tk) (N : Nat) (G_expr : Good l N 93 [.rule .r_expr]) (G_body : Good l N 75 [.rule .r_body]) : Good l N 123 [.word ⟨#[105, 102]⟩, .rule .r_expr, .word ⟨#[116, 104, 101, 110]⟩, .rule .r_body, .rule .r_elses, .word ⟨#[101, 110, 100]⟩] := by
 intro n hn W0 A c w0 p i d out ve r H hr
 show Calls Try.prog 123 _ w0 _
 have HP0 := Lib.hid H
 have HNN := Lib.hid hn
 have HS0 := Lib.hid (PStep.refl p (.slice none 0 0) ve w0)
 have hr0 : srun l n ⟨([.word ⟨#[105, 102]⟩] ++ ([.rule .r_expr] ++ ([.word ⟨#[116, 104, 101, 110]⟩] ++ ([.rule .r_body] ++ [.rule .r_elses, .word ⟨#[101, 110, 100]⟩])))), i, d, out⟩ = some r := hr
 clear H hn hr
 rcases srun_app l n [.word ⟨#[105, 102]⟩] ([.rule .r_expr] ++ ([.word ⟨#[116, 104, 101, 110]⟩] ++ ([.rule .r_body] ++ [.rule .r_elses, .word ⟨#[101, 110, 100]⟩]))) i d out r hr0 with ⟨er, jj, rfl, h1⟩ | ⟨i1, d1, out1, h1, hr1⟩
 ·skip
  have HX1 := Lib.hid h1
  have HC1 := Lib.hid (words_new HP0.out [⟨#[105, 102]⟩] 1 [.string ⟨#[105, 102]⟩] rfl rfl (by decide) (by decide) HX1.out)
  clear h1
  (try clear hr)
  go_enter Try.func123, Try.ntmps123
  go_wp2_with (first
   | (go_at_call 58; (with_reducible refine Calls.mono HC1.out ?_); rintro e w1 ⟨rfl, ve1, h3⟩; have HS1 := Lib.hid (HS0.out.trans h3); clear h3))
  exact ⟨rfl, rfl, ve1, HS1.out⟩
 ·skip
  rcases srun_app l n [.rule .r_expr] ([.word ⟨#[116, 104, 101, 110]⟩] ++ ([.rule .r_body] ++ [.rule .r_elses, .word ⟨#[101, 110, 100]⟩])) i1 d1 out1 r hr1 with ⟨er, jj, rfl, h2⟩ | ⟨i2, d2, out2, h2, hr2⟩
  ·skip
   have HX1 := Lib.hid h1; have HX2 := Lib.hid h2
   have HC1 := Lib.hid (words_new HP0.out [⟨#[105, 102]⟩] 1 [.string ⟨#[105, 102]⟩] rfl rfl (by decide) (by decide) HX1.out)
   clear h1 h2
   (try clear hr)
   go_enter Try.func123, Try.ntmps123
   go_wp2_with (first
    | (go_at_call 58; (with_reducible refine Calls.mono HC1.out ?_); rintro e w1 ⟨rfl, ve1, h2, h3⟩; have HP1 := Lib.hid h2; have HS1 := Lib.hid (HS0.out.trans h3); have HC2 := Lib.hid (G_expr n HNN.out W0 A c w1 p i1 d1 out1 ve1 _ HP1.out HX2.out); clear h2 h3)
    | (go_at_call 93; (with_reducible refine Calls.mono HC2.out ?_); rintro e w2 ⟨rfl, ve2, h3⟩; have HS2 := Lib.hid (HS1.out.trans h3); clear h3))
   exact ⟨rfl, rfl, ve2, HS2.out⟩
  ·skip
   rcases srun_app l n [.word ⟨#[116, 104, 101, 110]⟩] ([.rule .r_body] ++ [.rule .r_elses, .word ⟨#[101, 110, 100]⟩]) i2 d2 out2 r hr2 with ⟨er, jj, rfl, h3⟩ | ⟨i3, d3, out3, h3, hr3⟩
   ·skip
    have HX1 := Lib.hid h1; have HX2 := Lib.hid h2; have HX3 := Lib.hid h3
    have HC1 := Lib.hid (words_new HP0.out [⟨#[105, 102]⟩] 1 [.string ⟨#[105, 102]⟩] rfl rfl (by decide) (by decide) HX1.out)
    clear h1 h2 h3
    (try clear hr)
    go_enter Try.func123, Try.ntmps123
    go_wp2_with (first
     | (go_at_call 58; (with_reducible refine Calls.mono HC1.out ?_); rintro e w1 ⟨rfl, ve1, h2, h3⟩; have HP1 := Lib.hid h2; have HS1 := Lib.hid (HS0.out.trans h3); have HC2 := Lib.hid (G_expr n HNN.out W0 A c w1 p i1 d1 out1 ve1 _ HP1.out HX2.out); clear h2 h3)
     | (go_at_call 93; (with_reducible refine Calls.mono HC2.out ?_); rintro e w2 ⟨rfl, ve2, h2, h3⟩; have HP2 := Lib.hid h2; have HS2 := Lib.hid (HS1.out.trans h3); have HC3 := Lib.hid (words_new HP2.out [⟨#[116, 104, 101, 110]⟩] 1 [.string ⟨#[116, 104, 101, 110]⟩] rfl rfl (by decide) (by decide) HX3.out); clear h2 h3)
     | (go_at_call 58; (with_reducible refine Calls.mono HC3.out ?_); rintro e w3 ⟨rfl, ve3, h3⟩; have HS3 := Lib.hid (HS2.out.trans h3); clear h3))
    exact ⟨rfl, rfl, ve3, HS3.out⟩
   ·skip
    rcases srun_app l n [.rule .r_body] [.rule .r_elses, .word ⟨#[101, 110, 100]⟩] i3 d3 out3 r hr3 with ⟨er, jj, rfl, h4⟩ | ⟨i4, d4, out4, h4, hr4⟩
    ·skip
     have HX1 := Lib.hid h1; have HX2 := Lib.hid h2; have HX3 := Lib.hid h3; have HX4 := Lib.hid h4
     have HC1 := Lib.hid (words_new HP0.out [⟨#[105, 102]⟩] 1 [.string ⟨#[105, 102]⟩] rfl rfl (by decide) (by decide) HX1.out)
     clear h1 h2 h3 h4
     (try clear hr)
     go_enter Try.func123, Try.ntmps123
     go_wp2_with (first
      | (go_at_call 58; (with_reducible refine Calls.mono HC1.out ?_); rintro e w1 ⟨rfl, ve1, h2, h3⟩; have HP1 := Lib.hid h2; have HS1 := Lib.hid (HS0.out.trans h3); have HC2 := Lib.hid (G_expr n HNN.out W0 A c w1 p i1 d1 out1 ve1 _ HP1.out HX2.out); clear h2 h3)
      | (go_at_call 93; (with_reducible refine Calls.mono HC2.out ?_); rintro e w2 ⟨rfl, ve2, h2, h3⟩; have HP2 := Lib.hid h2; have HS2 := Lib.hid (HS1.out.trans h3); have HC3 := Lib.hid (words_new HP2.out [⟨#[116, 104, 101, 110]⟩] 1 [.string ⟨#[116, 104, 101, 110]⟩] rfl rfl (by decide) (by decide) HX3.out); clear h2 h3)
      | (go_at_call 58; (with_reducible refine Calls.mono HC3.out ?_); rintro e w3 ⟨rfl, ve3, h2, h3⟩; have HP3 := Lib.hid h2; have HS3 := Lib.hid (HS2.out.trans h3); have HC4 := Lib.hid (G_body n HNN.out W0 A c w3 p i3 d3 out3 ve3 _ HP3.out HX4.out); clear h2 h3)
      | (go_at_call 75; (with_reducible refine Calls.mono HC4.out ?_); rintro e w4 ⟨rfl, ve4, h3⟩; have HS4 := Lib.hid (HS3.out.trans h3); clear h3))
     exact ⟨rfl, rfl, ve4, HS4.out⟩
    ·skip
     have HRJ := Lib.hid hr4
     clear hr4
     have HX1 := Lib.hid h1; have HX2 := Lib.hid h2; have HX3 := Lib.hid h3; have HX4 := Lib.hid h4
     have HC1 := Lib.hid (words_new HP0.out [⟨#[105, 102]⟩] 1 [.string ⟨#[105, 102]⟩] rfl rfl (by decide) (by decide) HX1.out)
     clear h1 h2 h3 h4
     (try clear hr)
     go_enter Try.func123, Try.ntmps123
     go_wp2_with (first
      | (go_at_call 58; (with_reducible refine Calls.mono HC1.out ?_); rintro e w1 ⟨rfl, ve1, h2, h3⟩; have HP1 := Lib.hid h2; have HS1 := Lib.hid (HS0.out.trans h3); have HC2 := Lib.hid (G_expr n HNN.out W0 A c w1 p i1 d1 out1 ve1 _ HP1.out HX2.out); clear h2 h3)
      | (go_at_call 93; (with_reducible refine Calls.mono HC2.out ?_); rintro e w2 ⟨rfl, ve2, h2, h3⟩; have HP2 := Lib.hid h2; have HS2 := Lib.hid (HS1.out.trans h3); have HC3 := Lib.hid (words_new HP2.out [⟨#[116, 104, 101, 110]⟩] 1 [.string ⟨#[116, 104, 101, 110]⟩] rfl rfl (by decide) (by decide) HX3.out); clear h2 h3)
      | (go_at_call 58; (with_reducible refine Calls.mono HC3.out ?_); rintro e w3 ⟨rfl, ve3, h2, h3⟩; have HP3 := Lib.hid h2; have HS3 := Lib.hid (HS2.out.trans h3); have HC4 := Lib.hid (G_body n HNN.out W0 A c w3 p i3 d3 out3 ve3 _ HP3.out HX4.out); clear h2 h3)
      | (go_at_call 75; (with_reducible refine Calls.mono HC4.out ?_); rintro e w4 ⟨rfl, ve4, h2, h3⟩; have HP4 := Lib.hid h2; have HS4 := Lib.hid (HS3.out.trans h3); clear h2 h3))
     have HI0 : Hid (SAt W0 A c l w4 p i4 d4 out4 ve4 ∧ MStep p ve w0 ve4 w4 ∧ srun l n ⟨(.rule .r_elses :: [.word ⟨#[101, 110, 100]⟩]), i4, d4, out4⟩ = some r) := Lib.hid ⟨HP4.out, HS4.out, HRJ.out⟩
     clear HP4 HS4
     clear HRJ
     go_loopg [12] n (fun kq vx wr => Hid (∃ i' d' out' ve', SAt W0 A c l wr p i' d' out' ve' ∧ MStep p ve w0 ve' wr ∧ kq ≤ n ∧ srun l kq ⟨(.rule .r_elses :: [.word ⟨#[101, 110, 100]⟩]), i', d', out'⟩ = some r))
     case atStart => exact Lib.hid ⟨_, _, _, _, HI0.out.1, HI0.out.2.1, Nat.le_refl _, HI0.out.2.2⟩
     case round =>
      obtain ⟨i', d', out', ve', hA, hS, hkn, hrun⟩ := hrel.out
      clear HI0 hrel
      cases gk with
      | zero => exact absurd hrun (by simp [srun])
      | succ m =>
       have HPR := Lib.hid hA
       have HSR := Lib.hid hS
       skip
       have HM1 : Hid (m + 1 ≤ N) := Lib.hid (Nat.le_trans hkn HNN.out)
       have HMN : Hid (m ≤ N) := Lib.hid (Nat.le_trans (Nat.le_succ m) HM1.out)
       have HKN : Hid (m ≤ n) := Lib.hid (Nat.le_trans (Nat.le_succ m) hkn)
       clear hA hS hkn
       by_cases hin5' : inL (cAt l i') [⟨#[101, 108, 105, 102]⟩] = true
       ·have hin5 := hin5'
        clear hin5'
        have hr5 : srun l m ⟨([.word ⟨#[101, 108, 105, 102]⟩] ++ ([.rule .r_expr] ++ ([.word ⟨#[116, 104, 101, 110]⟩] ++ ([.rule .r_body] ++ [.rule .r_elses, .word ⟨#[101, 110, 100]⟩])))), i', d', out'⟩ = some r := round_push (S := [.word ⟨#[101, 110, 100]⟩]) (yes_elif hin5) hrun
        clear hrun
        rcases srun_app l m [.word ⟨#[101, 108, 105, 102]⟩] ([.rule .r_expr] ++ ([.word ⟨#[116, 104, 101, 110]⟩] ++ ([.rule .r_body] ++ [.rule .r_elses, .word ⟨#[101, 110, 100]⟩]))) i' d' out' r hr5 with ⟨er, jj, rfl, h6⟩ | ⟨i6, d6, out6, h6, hr6⟩
        ·skip
         have HX6 := Lib.hid h6
         have HI5 := Lib.hid hin5
         have HC5 := Lib.hid ((by have h := is_new HPR.out [⟨#[101, 108, 105, 102]⟩] 1 [.string ⟨#[101, 108, 105, 102]⟩] rfl rfl (by decide) (by decide); rw [HI5.out] at h; exact h))
         clear h6 hin5
         (try clear hr)
         go_wp2_with (first
          | (go_at_call 71; (with_reducible refine Calls.mono HC5.out ?_); rintro e w5 ⟨rfl, hb⟩; have h3 : MStep p ve' wr ve' w5 := PStep.below hb; have HP5 := Lib.hid (HPR.out.moved hb); have HS5 := Lib.hid (HSR.out.trans h3); have HC6 := Lib.hid (words_new HP5.out [⟨#[101, 108, 105, 102]⟩] 1 [.string ⟨#[101, 108, 105, 102]⟩] rfl rfl (by decide) (by decide) HX6.out); clear hb h3)
          | (go_at_call 58; (with_reducible refine Calls.mono HC6.out ?_); rintro e w6 ⟨rfl, ve6, h3⟩; have HS6 := Lib.hid (HS5.out.trans h3); clear h3))
         exact ⟨rfl, rfl, ve6, HS6.out⟩
        ·skip
         rcases srun_app l m [.rule .r_expr] ([.word ⟨#[116, 104, 101, 110]⟩] ++ ([.rule .r_body] ++ [.rule .r_elses, .word ⟨#[101, 110, 100]⟩])) i6 d6 out6 r hr6 with ⟨er, jj, rfl, h7⟩ | ⟨i7, d7, out7, h7, hr7⟩
         ·skip
          have HX6 := Lib.hid h6; have HX7 := Lib.hid h7
          have HI5 := Lib.hid hin5
          have HC5 := Lib.hid ((by have h := is_new HPR.out [⟨#[101, 108, 105, 102]⟩] 1 [.string ⟨#[101, 108, 105, 102]⟩] rfl rfl (by decide) (by decide); rw [HI5.out] at h; exact h))
          clear h6 h7 hin5
          (try clear hr)
          go_wp2_with (first
           | (go_at_call 71; (with_reducible refine Calls.mono HC5.out ?_); rintro e w5 ⟨rfl, hb⟩; have h3 : MStep p ve' wr ve' w5 := PStep.below hb; have HP5 := Lib.hid (HPR.out.moved hb); have HS5 := Lib.hid (HSR.out.trans h3); have HC6 := Lib.hid (words_new HP5.out [⟨#[101, 108, 105, 102]⟩] 1 [.string ⟨#[101, 108, 105, 102]⟩] rfl rfl (by decide) (by decide) HX6.out); clear hb h3)
           | (go_at_call 58; (with_reducible refine Calls.mono HC6.out ?_); rintro e w6 ⟨rfl, ve6, h2, h3⟩; have HP6 := Lib.hid h2; have HS6 := Lib.hid (HS5.out.trans h3); have HC7 := Lib.hid (G_expr m HMN.out W0 A c w6 p i6 d6 out6 ve6 _ HP6.out HX7.out); clear h2 h3)
           | (go_at_call 93; (with_reducible refine Calls.mono HC7.out ?_); rintro e w7 ⟨rfl, ve7, h3⟩; have HS7 := Lib.hid (HS6.out.trans h3); clear h3))
          exact ⟨rfl, rfl, ve7, HS7.out⟩
         ·skip
          rcases srun_app l m [.word ⟨#[116, 104, 101, 110]⟩] ([.rule .r_body] ++ [.rule .r_elses, .word ⟨#[101, 110, 100]⟩]) i7 d7 out7 r hr7 with ⟨er, jj, rfl, h8⟩ | ⟨i8, d8, out8, h8, hr8⟩
          ·skip
           have HX6 := Lib.hid h6; have HX7 := Lib.hid h7; have HX8 := Lib.hid h8
           have HI5 := Lib.hid hin5
           have HC5 := Lib.hid ((by have h := is_new HPR.out [⟨#[101, 108, 105, 102]⟩] 1 [.string ⟨#[101, 108, 105, 102]⟩] rfl rfl (by decide) (by decide); rw [HI5.out] at h; exact h))
           clear h6 h7 h8 hin5
           (try clear hr)
           go_wp2_with (first
            | (go_at_call 71; (with_reducible refine Calls.mono HC5.out ?_); rintro e w5 ⟨rfl, hb⟩; have h3 : MStep p ve' wr ve' w5 := PStep.below hb; have HP5 := Lib.hid (HPR.out.moved hb); have HS5 := Lib.hid (HSR.out.trans h3); have HC6 := Lib.hid (words_new HP5.out [⟨#[101, 108, 105, 102]⟩] 1 [.string ⟨#[101, 108, 105, 102]⟩] rfl rfl (by decide) (by decide) HX6.out); clear hb h3)
            | (go_at_call 58; (with_reducible refine Calls.mono HC6.out ?_); rintro e w6 ⟨rfl, ve6, h2, h3⟩; have HP6 := Lib.hid h2; have HS6 := Lib.hid (HS5.out.trans h3); have HC7 := Lib.hid (G_expr m HMN.out W0 A c w6 p i6 d6 out6 ve6 _ HP6.out HX7.out); clear h2 h3)
            | (go_at_call 93; (with_reducible refine Calls.mono HC7.out ?_); rintro e w7 ⟨rfl, ve7, h2, h3⟩; have HP7 := Lib.hid h2; have HS7 := Lib.hid (HS6.out.trans h3); have HC8 := Lib.hid (words_new HP7.out [⟨#[116, 104, 101, 110]⟩] 1 [.string ⟨#[116, 104, 101, 110]⟩] rfl rfl (by decide) (by decide) HX8.out); clear h2 h3)
            | (go_at_call 58; (with_reducible refine Calls.mono HC8.out ?_); rintro e w8 ⟨rfl, ve8, h3⟩; have HS8 := Lib.hid (HS7.out.trans h3); clear h3))
           exact ⟨rfl, rfl, ve8, HS8.out⟩
          ·skip
           rcases srun_app l m [.rule .r_body] [.rule .r_elses, .word ⟨#[101, 110, 100]⟩] i8 d8 out8 r hr8 with ⟨er, jj, rfl, h9⟩ | ⟨i9, d9, out9, h9, hr9⟩
           ·skip
            have HX6 := Lib.hid h6; have HX7 := Lib.hid h7; have HX8 := Lib.hid h8; have HX9 := Lib.hid h9
            have HI5 := Lib.hid hin5
            have HC5 := Lib.hid ((by have h := is_new HPR.out [⟨#[101, 108, 105, 102]⟩] 1 [.string ⟨#[101, 108, 105, 102]⟩] rfl rfl (by decide) (by decide); rw [HI5.out] at h; exact h))
            clear h6 h7 h8 h9 hin5
            (try clear hr)
            go_wp2_with (first
             | (go_at_call 71; (with_reducible refine Calls.mono HC5.out ?_); rintro e w5 ⟨rfl, hb⟩; have h3 : MStep p ve' wr ve' w5 := PStep.below hb; have HP5 := Lib.hid (HPR.out.moved hb); have HS5 := Lib.hid (HSR.out.trans h3); have HC6 := Lib.hid (words_new HP5.out [⟨#[101, 108, 105, 102]⟩] 1 [.string ⟨#[101, 108, 105, 102]⟩] rfl rfl (by decide) (by decide) HX6.out); clear hb h3)
             | (go_at_call 58; (with_reducible refine Calls.mono HC6.out ?_); rintro e w6 ⟨rfl, ve6, h2, h3⟩; have HP6 := Lib.hid h2; have HS6 := Lib.hid (HS5.out.trans h3); have HC7 := Lib.hid (G_expr m HMN.out W0 A c w6 p i6 d6 out6 ve6 _ HP6.out HX7.out); clear h2 h3)
             | (go_at_call 93; (with_reducible refine Calls.mono HC7.out ?_); rintro e w7 ⟨rfl, ve7, h2, h3⟩; have HP7 := Lib.hid h2; have HS7 := Lib.hid (HS6.out.trans h3); have HC8 := Lib.hid (words_new HP7.out [⟨#[116, 104, 101, 110]⟩] 1 [.string ⟨#[116, 104, 101, 110]⟩] rfl rfl (by decide) (by decide) HX8.out); clear h2 h3)
             | (go_at_call 58; (with_reducible refine Calls.mono HC8.out ?_); rintro e w8 ⟨rfl, ve8, h2, h3⟩; have HP8 := Lib.hid h2; have HS8 := Lib.hid (HS7.out.trans h3); have HC9 := Lib.hid (G_body m HMN.out W0 A c w8 p i8 d8 out8 ve8 _ HP8.out HX9.out); clear h2 h3)
             | (go_at_call 75; (with_reducible refine Calls.mono HC9.out ?_); rintro e w9 ⟨rfl, ve9, h3⟩; have HS9 := Lib.hid (HS8.out.trans h3); clear h3))
            exact ⟨rfl, rfl, ve9, HS9.out⟩
           ·skip
            have HRJ := Lib.hid hr9
            clear hr9
            have HX6 := Lib.hid h6; have HX7 := Lib.hid h7; have HX8 := Lib.hid h8; have HX9 := Lib.hid h9
            have HI5 := Lib.hid hin5
            have HC5 := Lib.hid ((by have h := is_new HPR.out [⟨#[101, 108, 105, 102]⟩] 1 [.string ⟨#[101, 108, 105, 102]⟩] rfl rfl (by decide) (by decide); rw [HI5.out] at h; exact h))
            clear h6 h7 h8 h9 hin5
            (try clear hr)
            go_wp2_with (first
             | (go_at_call 71; (with_reducible refine Calls.mono HC5.out ?_); rintro e w5 ⟨rfl, hb⟩; have h3 : MStep p ve' wr ve' w5 := PStep.below hb; have HP5 := Lib.hid (HPR.out.moved hb); have HS5 := Lib.hid (HSR.out.trans h3); have HC6 := Lib.hid (words_new HP5.out [⟨#[101, 108, 105, 102]⟩] 1 [.string ⟨#[101, 108, 105, 102]⟩] rfl rfl (by decide) (by decide) HX6.out); clear hb h3)
             | (go_at_call 58; (with_reducible refine Calls.mono HC6.out ?_); rintro e w6 ⟨rfl, ve6, h2, h3⟩; have HP6 := Lib.hid h2; have HS6 := Lib.hid (HS5.out.trans h3); have HC7 := Lib.hid (G_expr m HMN.out W0 A c w6 p i6 d6 out6 ve6 _ HP6.out HX7.out); clear h2 h3)
             | (go_at_call 93; (with_reducible refine Calls.mono HC7.out ?_); rintro e w7 ⟨rfl, ve7, h2, h3⟩; have HP7 := Lib.hid h2; have HS7 := Lib.hid (HS6.out.trans h3); have HC8 := Lib.hid (words_new HP7.out [⟨#[116, 104, 101, 110]⟩] 1 [.string ⟨#[116, 104, 101, 110]⟩] rfl rfl (by decide) (by decide) HX8.out); clear h2 h3)
             | (go_at_call 58; (with_reducible refine Calls.mono HC8.out ?_); rintro e w8 ⟨rfl, ve8, h2, h3⟩; have HP8 := Lib.hid h2; have HS8 := Lib.hid (HS7.out.trans h3); have HC9 := Lib.hid (G_body m HMN.out W0 A c w8 p i8 d8 out8 ve8 _ HP8.out HX9.out); clear h2 h3)
             | (go_at_call 75; (with_reducible refine Calls.mono HC9.out ?_); rintro e w9 ⟨rfl, ve9, h2, h3⟩; have HP9 := Lib.hid h2; have HS9 := Lib.hid (HS8.out.trans h3); clear h2 h3))
            go_roundg m
            case measure => omega
            case rel => exact Lib.hid ⟨_, _, _, _, HP9.out, HS9.out, HKN.out, HRJ.out⟩
       ·have hin5 : inL (cAt l i') [⟨#[101, 108, 105, 102]⟩] = false := by simpa using hin5'
        clear hin5'
        have hr5 := hrun
        have HEL := Lib.hid hin5
        clear hrun
        by_cases hin6' : inL (cAt l i') [⟨#[101, 108, 115, 101]⟩] = true
        ·have hin6 := hin6'
         clear hin6'
         have hr6 : srun l (m + 1) ⟨([.word ⟨#[101, 108, 115, 101]⟩] ++ ([.rule .r_body] ++ [.word ⟨#[101, 110, 100]⟩])), i', d', out'⟩ = some r := by
          have h := if_yes (S := [.word ⟨#[101, 110, 100]⟩]) (yes_elses hin6) hr5
          exact h
         rcases srun_app l (m + 1) [.word ⟨#[101, 108, 115, 101]⟩] ([.rule .r_body] ++ [.word ⟨#[101, 110, 100]⟩]) i' d' out' r hr6 with ⟨er, jj, rfl, h7⟩ | ⟨i7, d7, out7, h7, hr7⟩
         ·skip
          have HX7 := Lib.hid h7
          have HI5 := Lib.hid hin5; have HI6 := Lib.hid hin6
          have HC5 := Lib.hid ((by have h := is_new HPR.out [⟨#[101, 108, 105, 102]⟩] 1 [.string ⟨#[101, 108, 105, 102]⟩] rfl rfl (by decide) (by decide); rw [HI5.out] at h; exact h))
          clear h7 hin5 hin6
          (try clear hr)
          go_wp2_with (first
           | (go_at_call 71; (with_reducible refine Calls.mono HC5.out ?_); rintro e w5 ⟨rfl, hb⟩; have h3 : MStep p ve' wr ve' w5 := PStep.below hb; have HP5 := Lib.hid (HPR.out.moved hb); have HS5 := Lib.hid (HSR.out.trans h3); have HC6 := Lib.hid ((by have h := is_new HP5.out [⟨#[101, 108, 115, 101]⟩] 1 [.string ⟨#[101, 108, 115, 101]⟩] rfl rfl (by decide) (by decide); rw [HI6.out] at h; exact h)); clear hb h3)
           | (go_at_call 71; (with_reducible refine Calls.mono HC6.out ?_); rintro e w6 ⟨rfl, hb⟩; have h3 : MStep p ve' w5 ve' w6 := PStep.below hb; have HP6 := Lib.hid (HP5.out.moved hb); have HS6 := Lib.hid (HS5.out.trans h3); have HC7 := Lib.hid (words_new HP6.out [⟨#[101, 108, 115, 101]⟩] 1 [.string ⟨#[101, 108, 115, 101]⟩] rfl rfl (by decide) (by decide) HX7.out); clear hb h3)
           | (go_at_call 58; (with_reducible refine Calls.mono HC7.out ?_); rintro e w7 ⟨rfl, ve7, h3⟩; have HS7 := Lib.hid (HS6.out.trans h3); clear h3))
          exact ⟨rfl, rfl, ve7, HS7.out⟩
         ·skip
          rcases srun_app l (m + 1) [.rule .r_body] [.word ⟨#[101, 110, 100]⟩] i7 d7 out7 r hr7 with ⟨er, jj, rfl, h8⟩ | ⟨i8, d8, out8, h8, hr8⟩
          ·skip
           have HX7 := Lib.hid h7; have HX8 := Lib.hid h8
           have HI5 := Lib.hid hin5; have HI6 := Lib.hid hin6
           have HC5 := Lib.hid ((by have h := is_new HPR.out [⟨#[101, 108, 105, 102]⟩] 1 [.string ⟨#[101, 108, 105, 102]⟩] rfl rfl (by decide) (by decide); rw [HI5.out] at h; exact h))
           clear h7 h8 hin5 hin6
           (try clear hr)
           go_wp2_with (first
            | (go_at_call 71; (with_reducible refine Calls.mono HC5.out ?_); rintro e w5 ⟨rfl, hb⟩; have h3 : MStep p ve' wr ve' w5 := PStep.below hb; have HP5 := Lib.hid (HPR.out.moved hb); have HS5 := Lib.hid (HSR.out.trans h3); have HC6 := Lib.hid ((by have h := is_new HP5.out [⟨#[101, 108, 115, 101]⟩] 1 [.string ⟨#[101, 108, 115, 101]⟩] rfl rfl (by decide) (by decide); rw [HI6.out] at h; exact h)); clear hb h3)
            | (go_at_call 71; (with_reducible refine Calls.mono HC6.out ?_); rintro e w6 ⟨rfl, hb⟩; have h3 : MStep p ve' w5 ve' w6 := PStep.below hb; have HP6 := Lib.hid (HP5.out.moved hb); have HS6 := Lib.hid (HS5.out.trans h3); have HC7 := Lib.hid (words_new HP6.out [⟨#[101, 108, 115, 101]⟩] 1 [.string ⟨#[101, 108, 115, 101]⟩] rfl rfl (by decide) (by decide) HX7.out); clear hb h3)
            | (go_at_call 58; (with_reducible refine Calls.mono HC7.out ?_); rintro e w7 ⟨rfl, ve7, h2, h3⟩; have HP7 := Lib.hid h2; have HS7 := Lib.hid (HS6.out.trans h3); have HC8 := Lib.hid (G_body (m + 1) HM1.out W0 A c w7 p i7 d7 out7 ve7 _ HP7.out HX8.out); clear h2 h3)
            | (go_at_call 75; (with_reducible refine Calls.mono HC8.out ?_); rintro e w8 ⟨rfl, ve8, h3⟩; have HS8 := Lib.hid (HS7.out.trans h3); clear h3))
           exact ⟨rfl, rfl, ve8, HS8.out⟩
          ·skip
           have h9 := hr8
           cases r with
           | ok i9 d9 out9 =>
            have HX7 := Lib.hid h7; have HX8 := Lib.hid h8; have HX9 := Lib.hid h9
            have HI5 := Lib.hid hin5; have HI6 := Lib.hid hin6
            have HC5 := Lib.hid ((by have h := is_new HPR.out [⟨#[101, 108, 105, 102]⟩] 1 [.string ⟨#[101, 108, 105, 102]⟩] rfl rfl (by decide) (by decide); rw [HI5.out] at h; exact h))
            clear h7 h8 h9 hin5 hin6
            (try clear hr)
            go_wp2_with (first
             | (go_at_call 71; (with_reducible refine Calls.mono HC5.out ?_); rintro e w5 ⟨rfl, hb⟩; have h3 : MStep p ve' wr ve' w5 := PStep.below hb; have HP5 := Lib.hid (HPR.out.moved hb); have HS5 := Lib.hid (HSR.out.trans h3); have HC6 := Lib.hid ((by have h := is_new HP5.out [⟨#[101, 108, 115, 101]⟩] 1 [.string ⟨#[101, 108, 115, 101]⟩] rfl rfl (by decide) (by decide); rw [HI6.out] at h; exact h)); clear hb h3)
             | (go_at_call 71; (with_reducible refine Calls.mono HC6.out ?_); rintro e w6 ⟨rfl, hb⟩; have h3 : MStep p ve' w5 ve' w6 := PStep.below hb; have HP6 := Lib.hid (HP5.out.moved hb); have HS6 := Lib.hid (HS5.out.trans h3); have HC7 := Lib.hid (words_new HP6.out [⟨#[101, 108, 115, 101]⟩] 1 [.string ⟨#[101, 108, 115, 101]⟩] rfl rfl (by decide) (by decide) HX7.out); clear hb h3)
             | (go_at_call 58; (with_reducible refine Calls.mono HC7.out ?_); rintro e w7 ⟨rfl, ve7, h2, h3⟩; have HP7 := Lib.hid h2; have HS7 := Lib.hid (HS6.out.trans h3); have HC8 := Lib.hid (G_body (m + 1) HM1.out W0 A c w7 p i7 d7 out7 ve7 _ HP7.out HX8.out); clear h2 h3)
             | (go_at_call 75; (with_reducible refine Calls.mono HC8.out ?_); rintro e w8 ⟨rfl, ve8, h2, h3⟩; have HP8 := Lib.hid h2; have HS8 := Lib.hid (HS7.out.trans h3); have HC9 := Lib.hid (words_new HP8.out [⟨#[101, 110, 100]⟩] 1 [.string ⟨#[101, 110, 100]⟩] rfl rfl (by decide) (by decide) HX9.out); clear h2 h3)
             | (go_at_call 58; (with_reducible refine Calls.mono HC9.out ?_); rintro e w9 ⟨rfl, ve9, h2, h3⟩; have HP9 := Lib.hid h2; have HS9 := Lib.hid (HS8.out.trans h3); clear h2 h3))
            go_end0
            exact ⟨rfl, ve9, HP9.out, HS9.out⟩
           | err er jj =>
            have HX7 := Lib.hid h7; have HX8 := Lib.hid h8; have HX9 := Lib.hid h9
            have HI5 := Lib.hid hin5; have HI6 := Lib.hid hin6
            have HC5 := Lib.hid ((by have h := is_new HPR.out [⟨#[101, 108, 105, 102]⟩] 1 [.string ⟨#[101, 108, 105, 102]⟩] rfl rfl (by decide) (by decide); rw [HI5.out] at h; exact h))
            clear h7 h8 h9 hin5 hin6
            (try clear hr)
            go_wp2_with (first
             | (go_at_call 71; (with_reducible refine Calls.mono HC5.out ?_); rintro e w5 ⟨rfl, hb⟩; have h3 : MStep p ve' wr ve' w5 := PStep.below hb; have HP5 := Lib.hid (HPR.out.moved hb); have HS5 := Lib.hid (HSR.out.trans h3); have HC6 := Lib.hid ((by have h := is_new HP5.out [⟨#[101, 108, 115, 101]⟩] 1 [.string ⟨#[101, 108, 115, 101]⟩] rfl rfl (by decide) (by decide); rw [HI6.out] at h; exact h)); clear hb h3)
             | (go_at_call 71; (with_reducible refine Calls.mono HC6.out ?_); rintro e w6 ⟨rfl, hb⟩; have h3 : MStep p ve' w5 ve' w6 := PStep.below hb; have HP6 := Lib.hid (HP5.out.moved hb); have HS6 := Lib.hid (HS5.out.trans h3); have HC7 := Lib.hid (words_new HP6.out [⟨#[101, 108, 115, 101]⟩] 1 [.string ⟨#[101, 108, 115, 101]⟩] rfl rfl (by decide) (by decide) HX7.out); clear hb h3)
             | (go_at_call 58; (with_reducible refine Calls.mono HC7.out ?_); rintro e w7 ⟨rfl, ve7, h2, h3⟩; have HP7 := Lib.hid h2; have HS7 := Lib.hid (HS6.out.trans h3); have HC8 := Lib.hid (G_body (m + 1) HM1.out W0 A c w7 p i7 d7 out7 ve7 _ HP7.out HX8.out); clear h2 h3)
             | (go_at_call 75; (with_reducible refine Calls.mono HC8.out ?_); rintro e w8 ⟨rfl, ve8, h2, h3⟩; have HP8 := Lib.hid h2; have HS8 := Lib.hid (HS7.out.trans h3); have HC9 := Lib.hid (words_new HP8.out [⟨#[101, 110, 100]⟩] 1 [.string ⟨#[101, 110, 100]⟩] rfl rfl (by decide) (by decide) HX9.out); clear h2 h3)
             | (go_at_call 58; (with_reducible refine Calls.mono HC9.out ?_); rintro e w9 ⟨rfl, ve9, h3⟩; have HS9 := Lib.hid (HS8.out.trans h3); clear h3))
            exact ⟨rfl, rfl, ve9, HS9.out⟩
        ·have hin6 : inL (cAt l i') [⟨#[101, 108, 115, 101]⟩] = false := by simpa using hin6'
         clear hin6'
         have hr6 : srun l (m + 1) ⟨[.word ⟨#[101, 110, 100]⟩], i', d', out'⟩ = some r := if_no (no_elses HEL.out hin6) hr5
         have h7 := hr6
         cases r with
         | ok i7 d7 out7 =>
          have HX7 := Lib.hid h7
          have HI5 := Lib.hid hin5; have HI6 := Lib.hid hin6
          have HC5 := Lib.hid ((by have h := is_new HPR.out [⟨#[101, 108, 105, 102]⟩] 1 [.string ⟨#[101, 108, 105, 102]⟩] rfl rfl (by decide) (by decide); rw [HI5.out] at h; exact h))
          clear h7 hin5 hin6
          (try clear hr)
          go_wp2_with (first
           | (go_at_call 71; (with_reducible refine Calls.mono HC5.out ?_); rintro e w5 ⟨rfl, hb⟩; have h3 : MStep p ve' wr ve' w5 := PStep.below hb; have HP5 := Lib.hid (HPR.out.moved hb); have HS5 := Lib.hid (HSR.out.trans h3); have HC6 := Lib.hid ((by have h := is_new HP5.out [⟨#[101, 108, 115, 101]⟩] 1 [.string ⟨#[101, 108, 115, 101]⟩] rfl rfl (by decide) (by decide); rw [HI6.out] at h; exact h)); clear hb h3)
           | (go_at_call 71; (with_reducible refine Calls.mono HC6.out ?_); rintro e w6 ⟨rfl, hb⟩; have h3 : MStep p ve' w5 ve' w6 := PStep.below hb; have HP6 := Lib.hid (HP5.out.moved hb); have HS6 := Lib.hid (HS5.out.trans h3); have HC7 := Lib.hid (words_new HP6.out [⟨#[101, 110, 100]⟩] 1 [.string ⟨#[101, 110, 100]⟩] rfl rfl (by decide) (by decide) HX7.out); clear hb h3)
           | (go_at_call 58; (with_reducible refine Calls.mono HC7.out ?_); rintro e w7 ⟨rfl, ve7, h2, h3⟩; have HP7 := Lib.hid h2; have HS7 := Lib.hid (HS6.out.trans h3); clear h2 h3))
          go_end0
          exact ⟨rfl, ve7, HP7.out, HS7.out⟩
         | err er jj =>
          have HX7 := Lib.hid h7
          have HI5 := Lib.hid hin5; have HI6 := Lib.hid hin6
          have HC5 := Lib.hid ((by have h := is_new HPR.out [⟨#[101, 108, 105, 102]⟩] 1 [.string ⟨#[101, 108, 105, 102]⟩] rfl rfl (by decide) (by decide); rw [HI5.out] at h; exact h))
          clear h7 hin5 hin6
          (try clear hr)
          go_wp2_with (first
           | (go_at_call 71; (with_reducible refine Calls.mono HC5.out ?_); rintro e w5 ⟨rfl, hb⟩; have h3 : MStep p ve' wr ve' w5 := PStep.below hb; have HP5 := Lib.hid (HPR.out.moved hb); have HS5 := Lib.hid (HSR.out.trans h3); have HC6 := Lib.hid ((by have h := is_new HP5.out [⟨#[101, 108, 115, 101]⟩] 1 [.string ⟨#[101, 108, 115, 101]⟩] rfl rfl (by decide) (by decide); rw [HI6.out] at h; exact h)); clear hb h3)
           | (go_at_call 71; (with_reducible refine Calls.mono HC6.out ?_); rintro e w6 ⟨rfl, hb⟩; have h3 : MStep p ve' w5 ve' w6 := PStep.below hb; have HP6 := Lib.hid (HP5.out.moved hb); have HS6 := Lib.hid (HS5.out.trans h3); have HC7 := Lib.hid (words_new HP6.out [⟨#[101, 110, 100]⟩] 1 [.string ⟨#[101, 110, 100]⟩] rfl rfl (by decide) (by decide) HX7.out); clear hb h3)
           | (go_at_call 58; (with_reducible refine Calls.mono HC7.out ?_); rintro e w7 ⟨rfl, ve7, h3⟩; have HS7 := Lib.hid (HS6.out.trans h3); clear h3))
          exact ⟨rfl, rfl, ve7, HS7.out⟩
end Go.Proofs.Ytmjbpgnjgblnmaa
