/- What the claim stands on: part Qk. -/
import Derived.Test.YtmjbpgnjgblnmaaGreatQi
import Derived.Test.YtmjbpgnjgblnmaaGreatQj
import Derived.Test.YtmjbpgnjgblnmaaGreatQc
set_option linter.unusedVariables false
set_option linter.unusedSimpArgs false
namespace Go.Proofs.YtmjbpgnjgblnmaaGreat
open Go.RowKit Go.Proofs.YtmjbpgnjgblnmaaGreatW.PrintWords Go.Proofs.YtmjbpgnjgblnmaaGreatW.PrintLast Go.Proofs.YtmjbpgnjgblnmaaGreatW.PrintMore
theorem sel_29 {cc : ByteArray} (h : cc = ⟨#[91]⟩) {k : Nat} {T : List WT} (he : RId.expand .r_selected cc = some [.push [.rule .r_selected], .opn k T]) : k = 29 ∧ T = [.word ⟨#[91]⟩, .rule .r_expr, .rule .r_exprs, .word ⟨#[93]⟩] := by
 subst h
 have h2 : some [Eff.push [.rule .r_selected], .opn 29 [.word ⟨#[91]⟩, .rule .r_expr, .rule .r_exprs, .word ⟨#[93]⟩]] = some [.push [.rule .r_selected], .opn k T] := he
 injection h2 with h2; injection h2 with _ h2; injection h2 with h2 _; injection h2 with h3 h4
 exact ⟨h3.symm, h4.symm⟩
theorem sel_30 {cc : ByteArray} (h : cc = ⟨#[46]⟩) {k : Nat} {T : List WT} (he : RId.expand .r_selected cc = some [.push [.rule .r_selected], .opn k T]) : k = 30 ∧ T = [.word ⟨#[46]⟩, .word ⟨#[64, 110, 97, 109, 101]⟩] := by
 subst h
 have h2 : some [Eff.push [.rule .r_selected], .opn 30 [.word ⟨#[46]⟩, .word ⟨#[64, 110, 97, 109, 101]⟩]] = some [.push [.rule .r_selected], .opn k T] := he
 injection h2 with h2; injection h2 with _ h2; injection h2 with h2 _; injection h2 with h3 h4
 exact ⟨h3.symm, h4.symm⟩
theorem sel_31 {cc : ByteArray} (h : cc = ⟨#[40]⟩) {k : Nat} {T : List WT} (he : RId.expand .r_selected cc = some [.push [.rule .r_selected], .opn k T]) : k = 31 ∧ T = [.word ⟨#[40]⟩, .rule .r_args, .word ⟨#[41]⟩] := by
 subst h
 have h2 : some [Eff.push [.rule .r_selected], .opn 31 [.word ⟨#[40]⟩, .rule .r_args, .word ⟨#[41]⟩]] = some [.push [.rule .r_selected], .opn k T] := he
 injection h2 with h2; injection h2 with _ h2; injection h2 with h2 _; injection h2 with h3 h4
 exact ⟨h3.symm, h4.symm⟩
theorem sel_out {cc : ByteArray} {k : Nat} {T : List WT} (he : RId.expand .r_selected cc = some [.push [.rule .r_selected], .opn k T]) (h1 : inL cc [⟨#[91]⟩] = false) (h2 : inL cc [⟨#[46]⟩] = false) : cc = ⟨#[40]⟩ := by
 simp only [RId.expand] at he
 rw [if_neg (none_of h1 _ List.mem_cons_self), if_neg (none_of h2 _ List.mem_cons_self)] at he
 by_cases h3 : cc = ⟨#[40]⟩
 ·exact h3
 ·rw [if_neg h3] at he
  cases he
set_option maxRecDepth 100000 in
set_option maxHeartbeats 8000000 in
theorem g_selected (l : List Tk) (N : Nat) (G_selected_1 : GoodC l N 136 [.word ⟨#[91]⟩, .rule .r_expr, .rule .r_exprs, .word ⟨#[93]⟩]) (G_selected_2 : GoodC l N 137 [.word ⟨#[46]⟩, .word ⟨#[64, 110, 97, 109, 101]⟩]) (G_selected_3 : GoodC l N 138 [.word ⟨#[40]⟩, .rule .r_args, .word ⟨#[41]⟩]) : ∀ n, n ≤ N → ∀ (W0 : World) (A : Option Addr) (c : Nat) (w : World) (p i : Nat) (d : Int) (out : List Ev) (ve : Value) (r : SRes) (k : Nat) (T : List WT), SAt W0 A c l w p i d out ve → srun l n ⟨T ++ [.fin k], i, d + 1, out ++ [evOf (1, k)]⟩ = some r → RId.expand .r_selected (cAt l i) = some [.push [.rule .r_selected], .opn k T] → Calls Tryz.prog 121 #[.pointer (some ⟨p, 0, none⟩)] w (SPost W0 A c l p ve w r) := by
 intro n hn W0 A c w p i d out ve r k T H hr hex
 show Calls Tryz.prog 121 _ w _
 have HNN := Lib.hid hn
 have hr0 := hr
 clear hn hr
 obtain ⟨w0, hw0⟩ : ∃ V, w.alloc (.cells #[.pointer (some ⟨p, 0, none⟩)] 54) = V := ⟨_, rfl⟩
 have hb0 : Below w.heap.size w w0 := by rw [← hw0]; exact (Below.refl _ w).alloc (Nat.le_refl _) _
 have hg : w0.heap[w.heap.size]? = some (.cells #[.pointer (some ⟨p, 0, none⟩)] 54 (0, 0)) := by rw [← hw0]; exact World.alloc_heap_new _ _
 have HWB := Lib.hid hw0
 have HP0 := Lib.hid (H.moved hb0)
 have HS0 := Lib.hid (PStep.below hb0 : MStep p ve w ve w0)
 have HT0 := Lib.hid (PStep.refl p (.slice none 0 0) ve w0)
 obtain ⟨g, hge⟩ : ∃ g, w.heap.size = g := ⟨_, rfl⟩
 rw [hge] at hg
 have HGE := Lib.hid hge
 have HG0 := Lib.hid hg
 have bx := cell_of_row _ _ 0 _ _ _ hg
 clear hw0 hb0 hg hge H
 by_cases hin1' : inL (cAt l i) [⟨#[91]⟩] = true
 ·have hin1 := hin1'
  obtain ⟨rfl, rfl⟩ := sel_29 (one_of hin1) hex
  clear hin1' hex
  have h2 := hr0
  cases r with
  | ok i2 d2 out2 =>
   have HX2 := Lib.hid h2
   have HI1 := Lib.hid hin1
   have HC1 := Lib.hid ((by have h := is_new HP0.out [⟨#[91]⟩] 1 [.string ⟨#[91]⟩] rfl rfl (by decide) (by decide); rw [HI1.out] at h; exact h))
   clear h2 hin1
   (try clear hr)
   go_enter Tryz.func121, Tryz.ntmps121
   go_upto_region 2 with (fail)
   rw [HWB.out, HGE.out]
   go_wp2_with (first
    | (go_at_call 47; (with_reducible refine Calls.mono HC1.out ?_); rintro e w1 ⟨rfl, hb⟩; have h3 : MStep p ve w0 ve w1 := PStep.below hb; have HP1 := Lib.hid (HP0.out.moved hb); have HS1 := Lib.hid (HS0.out.trans h3); have HG1 := Lib.hid (mkeep (HT0.out.trans h3) HP0.out HG0.out (by decide) (by decide)); have HT1 := Lib.hid (HT0.out.trans h3); clear bx; have bx := cell_of_row _ _ 0 _ _ _ HG1.out; have HC2 := Lib.hid (node_new HP1.out 29 29 rfl (.func (.func 136) #[] #[.pointer (some ⟨g, 0, none⟩)]) 136 (.pointer (some ⟨g, 0, none⟩)) (.inr rfl) (fun w => enters_ Tryz.func136 (by kernel_rfl) rfl #[(.pointer (some ⟨g, 0, none⟩))] w) (T := [.word ⟨#[91]⟩, .rule .r_expr, .rule .r_exprs, .word ⟨#[93]⟩]) (G_selected_1.body HP1.out HG1.out) HNN.out HX2.out); clear hb h3)
    | (go_at_call 33; (with_reducible refine Calls.mono HC2.out ?_); rintro e w2 ⟨rfl, ve2, h2, h3⟩; have HP2 := Lib.hid h2; have HS2 := Lib.hid (HS1.out.trans h3); have HG2 := Lib.hid (mkeep (HT1.out.trans h3) HP0.out HG0.out (by decide) (by decide)); have HT2 := Lib.hid (HT1.out.trans h3); clear bx; have bx := cell_of_row _ _ 0 _ _ _ HG2.out; clear h2 h3))
   go_end0
   exact ⟨rfl, ve2, HP2.out, HS2.out⟩
  | err er jj =>
   have HX2 := Lib.hid h2
   have HI1 := Lib.hid hin1
   have HC1 := Lib.hid ((by have h := is_new HP0.out [⟨#[91]⟩] 1 [.string ⟨#[91]⟩] rfl rfl (by decide) (by decide); rw [HI1.out] at h; exact h))
   clear h2 hin1
   (try clear hr)
   go_enter Tryz.func121, Tryz.ntmps121
   go_upto_region 2 with (fail)
   rw [HWB.out, HGE.out]
   go_wp2_with (first
    | (go_at_call 47; (with_reducible refine Calls.mono HC1.out ?_); rintro e w1 ⟨rfl, hb⟩; have h3 : MStep p ve w0 ve w1 := PStep.below hb; have HP1 := Lib.hid (HP0.out.moved hb); have HS1 := Lib.hid (HS0.out.trans h3); have HG1 := Lib.hid (mkeep (HT0.out.trans h3) HP0.out HG0.out (by decide) (by decide)); have HT1 := Lib.hid (HT0.out.trans h3); clear bx; have bx := cell_of_row _ _ 0 _ _ _ HG1.out; have HC2 := Lib.hid (node_new HP1.out 29 29 rfl (.func (.func 136) #[] #[.pointer (some ⟨g, 0, none⟩)]) 136 (.pointer (some ⟨g, 0, none⟩)) (.inr rfl) (fun w => enters_ Tryz.func136 (by kernel_rfl) rfl #[(.pointer (some ⟨g, 0, none⟩))] w) (T := [.word ⟨#[91]⟩, .rule .r_expr, .rule .r_exprs, .word ⟨#[93]⟩]) (G_selected_1.body HP1.out HG1.out) HNN.out HX2.out); clear hb h3)
    | (go_at_call 33; (with_reducible refine Calls.mono HC2.out ?_); rintro e w2 ⟨rfl, ve2, h3⟩; have HS2 := Lib.hid (HS1.out.trans h3); clear h3))
   exact ⟨rfl, rfl, ve2, HS2.out⟩
 ·have hin1 : inL (cAt l i) [⟨#[91]⟩] = false := by simpa using hin1'
  clear hin1'
  by_cases hin2' : inL (cAt l i) [⟨#[46]⟩] = true
  ·have hin2 := hin2'
   obtain ⟨rfl, rfl⟩ := sel_30 (one_of hin2) hex
   clear hin2' hex
   have h3 := hr0
   cases r with
   | ok i3 d3 out3 =>
    have HX3 := Lib.hid h3
    have HI1 := Lib.hid hin1; have HI2 := Lib.hid hin2
    have HC1 := Lib.hid ((by have h := is_new HP0.out [⟨#[91]⟩] 1 [.string ⟨#[91]⟩] rfl rfl (by decide) (by decide); rw [HI1.out] at h; exact h))
    clear h3 hin1 hin2
    (try clear hr)
    go_enter Tryz.func121, Tryz.ntmps121
    go_upto_region 2 with (fail)
    rw [HWB.out, HGE.out]
    go_wp2_with (first
     | (go_at_call 47; (with_reducible refine Calls.mono HC1.out ?_); rintro e w1 ⟨rfl, hb⟩; have h3 : MStep p ve w0 ve w1 := PStep.below hb; have HP1 := Lib.hid (HP0.out.moved hb); have HS1 := Lib.hid (HS0.out.trans h3); have HG1 := Lib.hid (mkeep (HT0.out.trans h3) HP0.out HG0.out (by decide) (by decide)); have HT1 := Lib.hid (HT0.out.trans h3); clear bx; have bx := cell_of_row _ _ 0 _ _ _ HG1.out; have HC2 := Lib.hid ((by have h := is_new HP1.out [⟨#[46]⟩] 1 [.string ⟨#[46]⟩] rfl rfl (by decide) (by decide); rw [HI2.out] at h; exact h)); clear hb h3)
     | (go_at_call 47; (with_reducible refine Calls.mono HC2.out ?_); rintro e w2 ⟨rfl, hb⟩; have h3 : MStep p ve w1 ve w2 := PStep.below hb; have HP2 := Lib.hid (HP1.out.moved hb); have HS2 := Lib.hid (HS1.out.trans h3); have HG2 := Lib.hid (mkeep (HT1.out.trans h3) HP0.out HG0.out (by decide) (by decide)); have HT2 := Lib.hid (HT1.out.trans h3); clear bx; have bx := cell_of_row _ _ 0 _ _ _ HG2.out; have HC3 := Lib.hid (node_new HP2.out 30 30 rfl (.func (.func 137) #[] #[.pointer (some ⟨g, 0, none⟩)]) 137 (.pointer (some ⟨g, 0, none⟩)) (.inr rfl) (fun w => enters_ Tryz.func137 (by kernel_rfl) rfl #[(.pointer (some ⟨g, 0, none⟩))] w) (T := [.word ⟨#[46]⟩, .word ⟨#[64, 110, 97, 109, 101]⟩]) (G_selected_2.body HP2.out HG2.out) HNN.out HX3.out); clear hb h3)
     | (go_at_call 33; (with_reducible refine Calls.mono HC3.out ?_); rintro e w3 ⟨rfl, ve3, h2, h3⟩; have HP3 := Lib.hid h2; have HS3 := Lib.hid (HS2.out.trans h3); have HG3 := Lib.hid (mkeep (HT2.out.trans h3) HP0.out HG0.out (by decide) (by decide)); have HT3 := Lib.hid (HT2.out.trans h3); clear bx; have bx := cell_of_row _ _ 0 _ _ _ HG3.out; clear h2 h3))
    go_end0
    exact ⟨rfl, ve3, HP3.out, HS3.out⟩
   | err er jj =>
    have HX3 := Lib.hid h3
    have HI1 := Lib.hid hin1; have HI2 := Lib.hid hin2
    have HC1 := Lib.hid ((by have h := is_new HP0.out [⟨#[91]⟩] 1 [.string ⟨#[91]⟩] rfl rfl (by decide) (by decide); rw [HI1.out] at h; exact h))
    clear h3 hin1 hin2
    (try clear hr)
    go_enter Tryz.func121, Tryz.ntmps121
    go_upto_region 2 with (fail)
    rw [HWB.out, HGE.out]
    go_wp2_with (first
     | (go_at_call 47; (with_reducible refine Calls.mono HC1.out ?_); rintro e w1 ⟨rfl, hb⟩; have h3 : MStep p ve w0 ve w1 := PStep.below hb; have HP1 := Lib.hid (HP0.out.moved hb); have HS1 := Lib.hid (HS0.out.trans h3); have HG1 := Lib.hid (mkeep (HT0.out.trans h3) HP0.out HG0.out (by decide) (by decide)); have HT1 := Lib.hid (HT0.out.trans h3); clear bx; have bx := cell_of_row _ _ 0 _ _ _ HG1.out; have HC2 := Lib.hid ((by have h := is_new HP1.out [⟨#[46]⟩] 1 [.string ⟨#[46]⟩] rfl rfl (by decide) (by decide); rw [HI2.out] at h; exact h)); clear hb h3)
     | (go_at_call 47; (with_reducible refine Calls.mono HC2.out ?_); rintro e w2 ⟨rfl, hb⟩; have h3 : MStep p ve w1 ve w2 := PStep.below hb; have HP2 := Lib.hid (HP1.out.moved hb); have HS2 := Lib.hid (HS1.out.trans h3); have HG2 := Lib.hid (mkeep (HT1.out.trans h3) HP0.out HG0.out (by decide) (by decide)); have HT2 := Lib.hid (HT1.out.trans h3); clear bx; have bx := cell_of_row _ _ 0 _ _ _ HG2.out; have HC3 := Lib.hid (node_new HP2.out 30 30 rfl (.func (.func 137) #[] #[.pointer (some ⟨g, 0, none⟩)]) 137 (.pointer (some ⟨g, 0, none⟩)) (.inr rfl) (fun w => enters_ Tryz.func137 (by kernel_rfl) rfl #[(.pointer (some ⟨g, 0, none⟩))] w) (T := [.word ⟨#[46]⟩, .word ⟨#[64, 110, 97, 109, 101]⟩]) (G_selected_2.body HP2.out HG2.out) HNN.out HX3.out); clear hb h3)
     | (go_at_call 33; (with_reducible refine Calls.mono HC3.out ?_); rintro e w3 ⟨rfl, ve3, h3⟩; have HS3 := Lib.hid (HS2.out.trans h3); clear h3))
    exact ⟨rfl, rfl, ve3, HS3.out⟩
  ·have hin2 : inL (cAt l i) [⟨#[46]⟩] = false := by simpa using hin2'
   obtain ⟨rfl, rfl⟩ := sel_31 (sel_out hex hin1 hin2) hex
   clear hin2' hex
   have h3 := hr0
   cases r with
   | ok i3 d3 out3 =>
    have HX3 := Lib.hid h3
    have HI1 := Lib.hid hin1; have HI2 := Lib.hid hin2
    have HC1 := Lib.hid ((by have h := is_new HP0.out [⟨#[91]⟩] 1 [.string ⟨#[91]⟩] rfl rfl (by decide) (by decide); rw [HI1.out] at h; exact h))
    clear h3 hin1 hin2
    (try clear hr)
    go_enter Tryz.func121, Tryz.ntmps121
    go_upto_region 2 with (fail)
    rw [HWB.out, HGE.out]
    go_wp2_with (first
     | (go_at_call 47; (with_reducible refine Calls.mono HC1.out ?_); rintro e w1 ⟨rfl, hb⟩; have h3 : MStep p ve w0 ve w1 := PStep.below hb; have HP1 := Lib.hid (HP0.out.moved hb); have HS1 := Lib.hid (HS0.out.trans h3); have HG1 := Lib.hid (mkeep (HT0.out.trans h3) HP0.out HG0.out (by decide) (by decide)); have HT1 := Lib.hid (HT0.out.trans h3); clear bx; have bx := cell_of_row _ _ 0 _ _ _ HG1.out; have HC2 := Lib.hid ((by have h := is_new HP1.out [⟨#[46]⟩] 1 [.string ⟨#[46]⟩] rfl rfl (by decide) (by decide); rw [HI2.out] at h; exact h)); clear hb h3)
     | (go_at_call 47; (with_reducible refine Calls.mono HC2.out ?_); rintro e w2 ⟨rfl, hb⟩; have h3 : MStep p ve w1 ve w2 := PStep.below hb; have HP2 := Lib.hid (HP1.out.moved hb); have HS2 := Lib.hid (HS1.out.trans h3); have HG2 := Lib.hid (mkeep (HT1.out.trans h3) HP0.out HG0.out (by decide) (by decide)); have HT2 := Lib.hid (HT1.out.trans h3); clear bx; have bx := cell_of_row _ _ 0 _ _ _ HG2.out; have HC3 := Lib.hid (node_new HP2.out 31 31 rfl (.func (.func 138) #[] #[.pointer (some ⟨g, 0, none⟩)]) 138 (.pointer (some ⟨g, 0, none⟩)) (.inr rfl) (fun w => enters_ Tryz.func138 (by kernel_rfl) rfl #[(.pointer (some ⟨g, 0, none⟩))] w) (T := [.word ⟨#[40]⟩, .rule .r_args, .word ⟨#[41]⟩]) (G_selected_3.body HP2.out HG2.out) HNN.out HX3.out); clear hb h3)
     | (go_at_call 33; (with_reducible refine Calls.mono HC3.out ?_); rintro e w3 ⟨rfl, ve3, h2, h3⟩; have HP3 := Lib.hid h2; have HS3 := Lib.hid (HS2.out.trans h3); have HG3 := Lib.hid (mkeep (HT2.out.trans h3) HP0.out HG0.out (by decide) (by decide)); have HT3 := Lib.hid (HT2.out.trans h3); clear bx; have bx := cell_of_row _ _ 0 _ _ _ HG3.out; clear h2 h3))
    go_end0
    exact ⟨rfl, ve3, HP3.out, HS3.out⟩
   | err er jj =>
    have HX3 := Lib.hid h3
    have HI1 := Lib.hid hin1; have HI2 := Lib.hid hin2
    have HC1 := Lib.hid ((by have h := is_new HP0.out [⟨#[91]⟩] 1 [.string ⟨#[91]⟩] rfl rfl (by decide) (by decide); rw [HI1.out] at h; exact h))
    clear h3 hin1 hin2
    (try clear hr)
    go_enter Tryz.func121, Tryz.ntmps121
    go_upto_region 2 with (fail)
    rw [HWB.out, HGE.out]
    go_wp2_with (first
     | (go_at_call 47; (with_reducible refine Calls.mono HC1.out ?_); rintro e w1 ⟨rfl, hb⟩; have h3 : MStep p ve w0 ve w1 := PStep.below hb; have HP1 := Lib.hid (HP0.out.moved hb); have HS1 := Lib.hid (HS0.out.trans h3); have HG1 := Lib.hid (mkeep (HT0.out.trans h3) HP0.out HG0.out (by decide) (by decide)); have HT1 := Lib.hid (HT0.out.trans h3); clear bx; have bx := cell_of_row _ _ 0 _ _ _ HG1.out; have HC2 := Lib.hid ((by have h := is_new HP1.out [⟨#[46]⟩] 1 [.string ⟨#[46]⟩] rfl rfl (by decide) (by decide); rw [HI2.out] at h; exact h)); clear hb h3)
     | (go_at_call 47; (with_reducible refine Calls.mono HC2.out ?_); rintro e w2 ⟨rfl, hb⟩; have h3 : MStep p ve w1 ve w2 := PStep.below hb; have HP2 := Lib.hid (HP1.out.moved hb); have HS2 := Lib.hid (HS1.out.trans h3); have HG2 := Lib.hid (mkeep (HT1.out.trans h3) HP0.out HG0.out (by decide) (by decide)); have HT2 := Lib.hid (HT1.out.trans h3); clear bx; have bx := cell_of_row _ _ 0 _ _ _ HG2.out; have HC3 := Lib.hid (node_new HP2.out 31 31 rfl (.func (.func 138) #[] #[.pointer (some ⟨g, 0, none⟩)]) 138 (.pointer (some ⟨g, 0, none⟩)) (.inr rfl) (fun w => enters_ Tryz.func138 (by kernel_rfl) rfl #[(.pointer (some ⟨g, 0, none⟩))] w) (T := [.word ⟨#[40]⟩, .rule .r_args, .word ⟨#[41]⟩]) (G_selected_3.body HP2.out HG2.out) HNN.out HX3.out); clear hb h3)
     | (go_at_call 33; (with_reducible refine Calls.mono HC3.out ?_); rintro e w3 ⟨rfl, ve3, h3⟩; have HS3 := Lib.hid (HS2.out.trans h3); clear h3))
    exact ⟨rfl, rfl, ve3, HS3.out⟩
end Go.Proofs.YtmjbpgnjgblnmaaGreat
namespace Go.Proofs.YtmjbpgnjgblnmaaGreat
open Go.RowKit Go.Proofs.YtmjbpgnjgblnmaaGreatW.PrintWords Go.Proofs.YtmjbpgnjgblnmaaGreatW.PrintLast Go.Proofs.YtmjbpgnjgblnmaaGreatW.PrintMore
section
variable {l : List Tk} {n : Nat} {R : RId} {S T : List WT} {i : Nat} {d : Int} {out : List Ev} {r : SRes}
theorem round_push (he : R.expand (cAt l i) = some [.push T]) (hr : srun l (n + 1) ⟨.rule R :: S, i, d, out⟩ = some r) : srun l n ⟨T ++ S, i, d, out⟩ = some r := by
 obtain ⟨_, m, hm, h⟩ := srun_on hr (s' := ⟨T ++ S, i, d, out⟩) (by simp [sstep, he, effs, Eff.act])
 obtain rfl : n = m := by omega
 exact h
theorem round_opn {R2 : RId} {k : Nat} (he : R.expand (cAt l i) = some [.push [.rule R2], .opn k T]) (hr : srun l (n + 1) ⟨.rule R :: S, i, d, out⟩ = some r) : srun l n ⟨(T ++ [.fin k]) ++ (.rule R2 :: S), i, d + 1, out ++ [evOf (1, k)]⟩ = some r := by
 obtain ⟨_, m, hm, h⟩ := srun_on hr (s' := ⟨(T ++ [.fin k]) ++ (.rule R2 :: S), i, d + 1, out ++ [evOf (1, k)]⟩) (by simp [sstep, he, effs, Eff.act])
 obtain rfl : n = m := by omega
 exact h
end
theorem sel_exp {cc : ByteArray} (h : inL cc [⟨#[91]⟩, ⟨#[46]⟩, ⟨#[40]⟩] = true) : ∃ k T, RId.expand .r_selected cc = some [.push [.rule .r_selected], .opn k T] := by
 have hm := (inL_iff _ _).1 h
 simp only [List.mem_cons, List.not_mem_nil, or_false] at hm
 rcases hm with rfl | rfl | rfl <;> exact ⟨_, _, rfl⟩
theorem sel_no {cc : ByteArray} (h : inL cc [⟨#[91]⟩, ⟨#[46]⟩, ⟨#[40]⟩] = false) : RId.expand .r_selected cc = some [] := by
 simp only [RId.expand]
 rw [if_neg (none_of h _ (by simp)), if_neg (none_of h _ (by simp)), if_neg (none_of h _ (by simp))]
set_option maxRecDepth 100000 in
set_option maxHeartbeats 8000000 in
theorem g_object_1 (l : List Tk) (N : Nat) (G_selected : ∀ n, n ≤ N → ∀ (W0 : World) (A : Option Addr) (c : Nat) (w : World) (p i : Nat) (d : Int) (out : List Ev) (ve : Value) (r : SRes) (k : Nat) (T : List WT), SAt W0 A c l w p i d out ve → srun l n ⟨T ++ [.fin k], i, d + 1, out ++ [evOf (1, k)]⟩ = some r → RId.expand .r_selected (cAt l i) = some [.push [.rule .r_selected], .opn k T] → Calls Tryz.prog 121 #[.pointer (some ⟨p, 0, none⟩)] w (SPost W0 A c l p ve w r)) : GoodC l N 120 [.word ⟨#[64, 110, 97, 109, 101]⟩, .rule .r_selected] := by
 intro n hn W0 A c w0 p g i d out ve r H hg hr
 show Calls Tryz.prog 120 _ w0 _
 have HP0 := Lib.hid H
 have HG0 := Lib.hid hg
 have HNN := Lib.hid hn
 have HS0 := Lib.hid (PStep.refl p (.slice none 0 0) ve w0)
 have HT0 := HS0
 have bx := cell_of_row _ _ 0 _ _ _ hg
 have hr0 : srun l n ⟨([.word ⟨#[64, 110, 97, 109, 101]⟩] ++ [.rule .r_selected]), i, d, out⟩ = some r := hr
 clear H hg hn hr
 rcases srun_app l n [.word ⟨#[64, 110, 97, 109, 101]⟩] [.rule .r_selected] i d out r hr0 with ⟨er, jj, rfl, h1⟩ | ⟨i1, d1, out1, h1, hr1⟩
 ·skip
  have HX1 := Lib.hid h1
  have HC1 := Lib.hid (name_any l N n HNN.out W0 A c w0 p i d out ve _ HP0.out HX1.out)
  clear h1
  (try clear hr)
  go_enter Tryz.func120, Tryz.ntmps120
  go_wp2_with (first
   | (go_at_call 37; (with_reducible refine Calls.mono HC1.out ?_); rintro e w1 ⟨rfl, ve1, h3⟩; have HS1 := Lib.hid (HS0.out.trans h3); clear h3))
  exact ⟨rfl, rfl, ve1, HS1.out⟩
 ·skip
  have HRJ := Lib.hid hr1
  clear hr1
  have HX1 := Lib.hid h1
  have HC1 := Lib.hid (name_any l N n HNN.out W0 A c w0 p i d out ve _ HP0.out HX1.out)
  clear h1
  (try clear hr)
  go_enter Tryz.func120, Tryz.ntmps120
  go_wp2_with (first
   | (go_at_call 37; (with_reducible refine Calls.mono HC1.out ?_); rintro e w1 ⟨rfl, ve1, h2, h3⟩; have HP1 := Lib.hid h2; have HS1 := Lib.hid (HS0.out.trans h3); have HG1 := Lib.hid (mkeep (HT0.out.trans h3) HP0.out HG0.out (by decide) (by decide)); have HT1 := Lib.hid (HT0.out.trans h3); clear bx; have bx := cell_of_row _ _ 0 _ _ _ HG1.out; clear h2 h3))
  have HI0 : Hid (SAt W0 A c l w1 p i1 d1 out1 ve1 ∧ MStep p ve w0 ve1 w1 ∧ srun l n ⟨(.rule .r_selected :: []), i1, d1, out1⟩ = some r) := Lib.hid ⟨HP1.out, HS1.out, HRJ.out⟩
  clear HP1 HS1 HG1 HT1
  clear HRJ
  go_loopg [3] n (fun kq vx wr => Hid (∃ i' d' out' ve', SAt W0 A c l wr p i' d' out' ve' ∧ MStep p ve w0 ve' wr ∧ kq ≤ n ∧ srun l kq ⟨(.rule .r_selected :: []), i', d', out'⟩ = some r))
  case atStart => exact Lib.hid ⟨_, _, _, _, HI0.out.1, HI0.out.2.1, Nat.le_refl _, HI0.out.2.2⟩
  case round =>
   obtain ⟨i', d', out', ve', hA, hS, hkn, hrun⟩ := hrel.out
   clear HI0 hrel
   cases gk with
   | zero => exact absurd hrun (by simp [srun])
   | succ m =>
    have HPR := Lib.hid hA
    have HSR := Lib.hid hS
    have HGR := Lib.hid (mkeep hS HP0.out HG0.out (by decide) (by decide))
    have HTR := HSR
    have bx := cell_of_row _ _ 0 _ _ _ HGR.out
    have HM1 : Hid (m + 1 ≤ N) := Lib.hid (Nat.le_trans hkn HNN.out)
    have HMN : Hid (m ≤ N) := Lib.hid (Nat.le_trans (Nat.le_succ m) HM1.out)
    have HKN : Hid (m ≤ n) := Lib.hid (Nat.le_trans (Nat.le_succ m) hkn)
    clear hA hS hkn
    by_cases hin2' : inL (cAt l i') [⟨#[91]⟩, ⟨#[46]⟩, ⟨#[40]⟩] = true
    ·have hin2 := hin2'
     clear hin2'
     obtain ⟨k, T, hex⟩ := sel_exp hin2
     have hr2 := round_opn hex hrun
     have HEX := Lib.hid hex
     clear hrun hex
     rcases srun_app l m (T ++ [.fin k]) [.rule .r_selected] i' (d' + 1) (out' ++ [evOf (1, k)]) r hr2 with ⟨er, jj, rfl, h3⟩ | ⟨i3, d3, out3, h3, hr3⟩
     ·skip
      have HX3 := Lib.hid h3
      have HI2 := Lib.hid hin2
      have HC2 := Lib.hid ((by have h := is_new HPR.out [⟨#[91]⟩, ⟨#[46]⟩, ⟨#[40]⟩] 3 [.string ⟨#[91]⟩, .string ⟨#[46]⟩, .string ⟨#[40]⟩] rfl rfl (by decide) (by decide); rw [HI2.out] at h; exact h))
      clear h3 hin2
      (try clear hr)
      go_wp2_with (first
       | (go_at_call 47; (with_reducible refine Calls.mono HC2.out ?_); rintro e w2 ⟨rfl, hb⟩; have h3 : MStep p ve' wr ve' w2 := PStep.below hb; have HP2 := Lib.hid (HPR.out.moved hb); have HS2 := Lib.hid (HSR.out.trans h3); have HG2 := Lib.hid (mkeep (HTR.out.trans h3) HP0.out HG0.out (by decide) (by decide)); have HT2 := Lib.hid (HTR.out.trans h3); clear bx; have bx := cell_of_row _ _ 0 _ _ _ HG2.out; have HC3 := Lib.hid (G_selected m HMN.out W0 A c w2 p i' d' out' ve' _ k T HP2.out HX3.out HEX.out); clear hb h3)
       | (go_at_call 121; (with_reducible refine Calls.mono HC3.out ?_); rintro e w3 ⟨rfl, ve3, h3⟩; have HS3 := Lib.hid (HS2.out.trans h3); clear h3))
      exact ⟨rfl, rfl, ve3, HS3.out⟩
     ·skip
      have HRJ := Lib.hid hr3
      clear hr3
      have HX3 := Lib.hid h3
      have HI2 := Lib.hid hin2
      have HC2 := Lib.hid ((by have h := is_new HPR.out [⟨#[91]⟩, ⟨#[46]⟩, ⟨#[40]⟩] 3 [.string ⟨#[91]⟩, .string ⟨#[46]⟩, .string ⟨#[40]⟩] rfl rfl (by decide) (by decide); rw [HI2.out] at h; exact h))
      clear h3 hin2
      (try clear hr)
      go_wp2_with (first
       | (go_at_call 47; (with_reducible refine Calls.mono HC2.out ?_); rintro e w2 ⟨rfl, hb⟩; have h3 : MStep p ve' wr ve' w2 := PStep.below hb; have HP2 := Lib.hid (HPR.out.moved hb); have HS2 := Lib.hid (HSR.out.trans h3); have HG2 := Lib.hid (mkeep (HTR.out.trans h3) HP0.out HG0.out (by decide) (by decide)); have HT2 := Lib.hid (HTR.out.trans h3); clear bx; have bx := cell_of_row _ _ 0 _ _ _ HG2.out; have HC3 := Lib.hid (G_selected m HMN.out W0 A c w2 p i' d' out' ve' _ k T HP2.out HX3.out HEX.out); clear hb h3)
       | (go_at_call 121; (with_reducible refine Calls.mono HC3.out ?_); rintro e w3 ⟨rfl, ve3, h2, h3⟩; have HP3 := Lib.hid h2; have HS3 := Lib.hid (HS2.out.trans h3); have HG3 := Lib.hid (mkeep (HT2.out.trans h3) HP0.out HG0.out (by decide) (by decide)); have HT3 := Lib.hid (HT2.out.trans h3); clear bx; have bx := cell_of_row _ _ 0 _ _ _ HG3.out; clear h2 h3))
      go_roundg m
      case measure => omega
      case rel => exact Lib.hid ⟨_, _, _, _, HP3.out, HS3.out, HKN.out, HRJ.out⟩
    ·have hin2 : inL (cAt l i') [⟨#[91]⟩, ⟨#[46]⟩, ⟨#[40]⟩] = false := by simpa using hin2'
     clear hin2'
     have hr2 := if_no (sel_no hin2) hrun
     clear hrun
     obtain ⟨_, rfl⟩ := srun_fin hr2 (q := .ok i' d' out') rfl
     (try clear hr2)
     have HI2 := Lib.hid hin2
     have HC2 := Lib.hid ((by have h := is_new HPR.out [⟨#[91]⟩, ⟨#[46]⟩, ⟨#[40]⟩] 3 [.string ⟨#[91]⟩, .string ⟨#[46]⟩, .string ⟨#[40]⟩] rfl rfl (by decide) (by decide); rw [HI2.out] at h; exact h))
     clear hin2
     (try clear hr)
     go_wp2_with (first
      | (go_at_call 47; (with_reducible refine Calls.mono HC2.out ?_); rintro e w2 ⟨rfl, hb⟩; have h3 : MStep p ve' wr ve' w2 := PStep.below hb; have HP2 := Lib.hid (HPR.out.moved hb); have HS2 := Lib.hid (HSR.out.trans h3); have HG2 := Lib.hid (mkeep (HTR.out.trans h3) HP0.out HG0.out (by decide) (by decide)); have HT2 := Lib.hid (HTR.out.trans h3); clear bx; have bx := cell_of_row _ _ 0 _ _ _ HG2.out; clear hb h3))
     go_end0
     exact ⟨rfl, ve', HP2.out, HS2.out⟩
end Go.Proofs.YtmjbpgnjgblnmaaGreat
namespace Go.Proofs.YtmjbpgnjgblnmaaGreat
open Go.RowKit Go.Proofs.YtmjbpgnjgblnmaaGreatW.PrintWords Go.Proofs.YtmjbpgnjgblnmaaGreatW.PrintLast Go.Proofs.YtmjbpgnjgblnmaaGreatW.PrintMore
theorem yes_declarations {cc : ByteArray} (h : inL cc [⟨#[118, 97, 114]⟩, ⟨#[99, 111, 110, 115, 116]⟩, ⟨#[112, 114, 111, 99]⟩] = true) : RId.expand .r_declarations cc = some [.push [.rule .r_declaration, .rule .r_declarations]] := by
 have h1 : cc = ⟨#[118, 97, 114]⟩ ∨ cc = ⟨#[99, 111, 110, 115, 116]⟩ ∨ cc = ⟨#[112, 114, 111, 99]⟩ := by simpa using (inL_iff _ _).1 h
 simp only [RId.expand]
 rw [if_pos h1]
theorem no_declarations {cc : ByteArray} (h : inL cc [⟨#[118, 97, 114]⟩, ⟨#[99, 111, 110, 115, 116]⟩, ⟨#[112, 114, 111, 99]⟩] = false) : RId.expand .r_declarations cc = some [] := by
 have h1 : ¬ (cc = ⟨#[118, 97, 114]⟩ ∨ cc = ⟨#[99, 111, 110, 115, 116]⟩ ∨ cc = ⟨#[112, 114, 111, 99]⟩) := fun hc => by
  have := (inL_iff cc [⟨#[118, 97, 114]⟩, ⟨#[99, 111, 110, 115, 116]⟩, ⟨#[112, 114, 111, 99]⟩]).2 (by simpa using hc)
  rw [this] at h
  cases h
 simp only [RId.expand]
 rw [if_neg h1]
set_option maxRecDepth 100000 in
set_option maxHeartbeats 8000000 in
theorem g_block_1 (l : List Tk) (N : Nat) (G_declaration : ∀ n, n ≤ N → ∀ (W0 : World) (A : Option Addr) (c : Nat) (w : World) (p i : Nat) (d : Int) (out : List Ev) (ve : Value) (r : SRes), SAt W0 A c l w p i d out ve → srun l n ⟨[.rule .r_declaration], i, d, out⟩ = some r → inL (cAt l i) [⟨#[118, 97, 114]⟩, ⟨#[99, 111, 110, 115, 116]⟩, ⟨#[112, 114, 111, 99]⟩] = true → Calls Tryz.prog 50 #[.pointer (some ⟨p, 0, none⟩)] w (SPost W0 A c l p ve w r)) (G_body : Good l N 51 [.rule .r_body]) : GoodC l N 49 [.rule .r_declarations, .word ⟨#[98, 101, 103, 105, 110]⟩, .rule .r_body, .word ⟨#[101, 110, 100]⟩] := by
 intro n hn W0 A c w0 p g i d out ve r H hg hr
 show Calls Tryz.prog 49 _ w0 _
 have HP0 := Lib.hid H
 have HG0 := Lib.hid hg
 have HNN := Lib.hid hn
 have HS0 := Lib.hid (PStep.refl p (.slice none 0 0) ve w0)
 have HT0 := HS0
 have bx := cell_of_row _ _ 0 _ _ _ hg
 have hr0 : srun l n ⟨(.rule .r_declarations :: ([.word ⟨#[98, 101, 103, 105, 110]⟩] ++ ([.rule .r_body] ++ [.word ⟨#[101, 110, 100]⟩]))), i, d, out⟩ = some r := hr
 clear H hg hn hr
 have HRJ := Lib.hid hr0
 clear hr0
 go_enter Tryz.func49, Tryz.ntmps49
 go_wp2
 have HI0 : Hid (SAt W0 A c l w0 p i d out ve ∧ MStep p ve w0 ve w0 ∧ srun l n ⟨(.rule .r_declarations :: ([.word ⟨#[98, 101, 103, 105, 110]⟩] ++ ([.rule .r_body] ++ [.word ⟨#[101, 110, 100]⟩]))), i, d, out⟩ = some r) := Lib.hid ⟨HP0.out, HS0.out, HRJ.out⟩
 skip
 clear HRJ
 go_loopg [1] n (fun kq vx wr => Hid (∃ i' d' out' ve', SAt W0 A c l wr p i' d' out' ve' ∧ MStep p ve w0 ve' wr ∧ kq ≤ n ∧ srun l kq ⟨(.rule .r_declarations :: ([.word ⟨#[98, 101, 103, 105, 110]⟩] ++ ([.rule .r_body] ++ [.word ⟨#[101, 110, 100]⟩]))), i', d', out'⟩ = some r))
 case atStart => exact Lib.hid ⟨_, _, _, _, HI0.out.1, HI0.out.2.1, Nat.le_refl _, HI0.out.2.2⟩
 case round =>
  obtain ⟨i', d', out', ve', hA, hS, hkn, hrun⟩ := hrel.out
  clear HI0 hrel
  cases gk with
  | zero => exact absurd hrun (by simp [srun])
  | succ m =>
   have HPR := Lib.hid hA
   have HSR := Lib.hid hS
   have HGR := Lib.hid (mkeep hS HP0.out HG0.out (by decide) (by decide))
   have HTR := HSR
   have bx := cell_of_row _ _ 0 _ _ _ HGR.out
   have HM1 : Hid (m + 1 ≤ N) := Lib.hid (Nat.le_trans hkn HNN.out)
   have HMN : Hid (m ≤ N) := Lib.hid (Nat.le_trans (Nat.le_succ m) HM1.out)
   have HKN : Hid (m ≤ n) := Lib.hid (Nat.le_trans (Nat.le_succ m) hkn)
   clear hA hS hkn
   by_cases hin1' : inL (cAt l i') [⟨#[118, 97, 114]⟩, ⟨#[99, 111, 110, 115, 116]⟩, ⟨#[112, 114, 111, 99]⟩] = true
   ·have hin1 := hin1'
    clear hin1'
    have hr1 : srun l m ⟨[.rule .r_declaration] ++ (.rule .r_declarations :: ([.word ⟨#[98, 101, 103, 105, 110]⟩] ++ ([.rule .r_body] ++ [.word ⟨#[101, 110, 100]⟩]))), i', d', out'⟩ = some r := round_push (S := ([.word ⟨#[98, 101, 103, 105, 110]⟩] ++ ([.rule .r_body] ++ [.word ⟨#[101, 110, 100]⟩]))) (yes_declarations hin1) hrun
    clear hrun
    rcases srun_app l m [.rule .r_declaration] [.rule .r_declarations, .word ⟨#[98, 101, 103, 105, 110]⟩, .rule .r_body, .word ⟨#[101, 110, 100]⟩] i' d' out' r hr1 with ⟨er, jj, rfl, h2⟩ | ⟨i2, d2, out2, h2, hr2⟩
    ·skip
     have HX2 := Lib.hid h2
     have HI1 := Lib.hid hin1
     have HC1 := Lib.hid ((by have h := is_new HPR.out [⟨#[118, 97, 114]⟩, ⟨#[99, 111, 110, 115, 116]⟩, ⟨#[112, 114, 111, 99]⟩] 3 [.string ⟨#[118, 97, 114]⟩, .string ⟨#[99, 111, 110, 115, 116]⟩, .string ⟨#[112, 114, 111, 99]⟩] rfl rfl (by decide) (by decide); rw [HI1.out] at h; exact h))
     clear h2 hin1
     (try clear hr)
     go_wp2_with (first
      | (go_at_call 47; (with_reducible refine Calls.mono HC1.out ?_); rintro e w1 ⟨rfl, hb⟩; have h3 : MStep p ve' wr ve' w1 := PStep.below hb; have HP1 := Lib.hid (HPR.out.moved hb); have HS1 := Lib.hid (HSR.out.trans h3); have HG1 := Lib.hid (mkeep (HTR.out.trans h3) HP0.out HG0.out (by decide) (by decide)); have HT1 := Lib.hid (HTR.out.trans h3); clear bx; have bx := cell_of_row _ _ 0 _ _ _ HG1.out; have HC2 := Lib.hid (G_declaration m HMN.out W0 A c w1 p i' d' out' ve' _ HP1.out HX2.out HI1.out); clear hb h3)
      | (go_at_call 50; (with_reducible refine Calls.mono HC2.out ?_); rintro e w2 ⟨rfl, ve2, h3⟩; have HS2 := Lib.hid (HS1.out.trans h3); clear h3))
     exact ⟨rfl, rfl, ve2, HS2.out⟩
    ·skip
     have HRJ := Lib.hid hr2
     clear hr2
     have HX2 := Lib.hid h2
     have HI1 := Lib.hid hin1
     have HC1 := Lib.hid ((by have h := is_new HPR.out [⟨#[118, 97, 114]⟩, ⟨#[99, 111, 110, 115, 116]⟩, ⟨#[112, 114, 111, 99]⟩] 3 [.string ⟨#[118, 97, 114]⟩, .string ⟨#[99, 111, 110, 115, 116]⟩, .string ⟨#[112, 114, 111, 99]⟩] rfl rfl (by decide) (by decide); rw [HI1.out] at h; exact h))
     clear h2 hin1
     (try clear hr)
     go_wp2_with (first
      | (go_at_call 47; (with_reducible refine Calls.mono HC1.out ?_); rintro e w1 ⟨rfl, hb⟩; have h3 : MStep p ve' wr ve' w1 := PStep.below hb; have HP1 := Lib.hid (HPR.out.moved hb); have HS1 := Lib.hid (HSR.out.trans h3); have HG1 := Lib.hid (mkeep (HTR.out.trans h3) HP0.out HG0.out (by decide) (by decide)); have HT1 := Lib.hid (HTR.out.trans h3); clear bx; have bx := cell_of_row _ _ 0 _ _ _ HG1.out; have HC2 := Lib.hid (G_declaration m HMN.out W0 A c w1 p i' d' out' ve' _ HP1.out HX2.out HI1.out); clear hb h3)
      | (go_at_call 50; (with_reducible refine Calls.mono HC2.out ?_); rintro e w2 ⟨rfl, ve2, h2, h3⟩; have HP2 := Lib.hid h2; have HS2 := Lib.hid (HS1.out.trans h3); have HG2 := Lib.hid (mkeep (HT1.out.trans h3) HP0.out HG0.out (by decide) (by decide)); have HT2 := Lib.hid (HT1.out.trans h3); clear bx; have bx := cell_of_row _ _ 0 _ _ _ HG2.out; clear h2 h3))
     go_roundg m
     case measure => omega
     case rel => exact Lib.hid ⟨_, _, _, _, HP2.out, HS2.out, HKN.out, HRJ.out⟩
   ·have hin1 : inL (cAt l i') [⟨#[118, 97, 114]⟩, ⟨#[99, 111, 110, 115, 116]⟩, ⟨#[112, 114, 111, 99]⟩] = false := by simpa using hin1'
    clear hin1'
    have hr1 := if_no (no_declarations hin1) hrun
    clear hrun
    rcases srun_app l (m + 1) [.word ⟨#[98, 101, 103, 105, 110]⟩] ([.rule .r_body] ++ [.word ⟨#[101, 110, 100]⟩]) i' d' out' r hr1 with ⟨er, jj, rfl, h2⟩ | ⟨i2, d2, out2, h2, hr2⟩
    ·skip
     have HX2 := Lib.hid h2
     have HI1 := Lib.hid hin1
     have HC1 := Lib.hid ((by have h := is_new HPR.out [⟨#[118, 97, 114]⟩, ⟨#[99, 111, 110, 115, 116]⟩, ⟨#[112, 114, 111, 99]⟩] 3 [.string ⟨#[118, 97, 114]⟩, .string ⟨#[99, 111, 110, 115, 116]⟩, .string ⟨#[112, 114, 111, 99]⟩] rfl rfl (by decide) (by decide); rw [HI1.out] at h; exact h))
     clear h2 hin1
     (try clear hr)
     go_wp2_with (first
      | (go_at_call 47; (with_reducible refine Calls.mono HC1.out ?_); rintro e w1 ⟨rfl, hb⟩; have h3 : MStep p ve' wr ve' w1 := PStep.below hb; have HP1 := Lib.hid (HPR.out.moved hb); have HS1 := Lib.hid (HSR.out.trans h3); have HG1 := Lib.hid (mkeep (HTR.out.trans h3) HP0.out HG0.out (by decide) (by decide)); have HT1 := Lib.hid (HTR.out.trans h3); clear bx; have bx := cell_of_row _ _ 0 _ _ _ HG1.out; have HC2 := Lib.hid (words_new HP1.out [⟨#[98, 101, 103, 105, 110]⟩] 1 [.string ⟨#[98, 101, 103, 105, 110]⟩] rfl rfl (by decide) (by decide) HX2.out); clear hb h3)
      | (go_at_call 36; (with_reducible refine Calls.mono HC2.out ?_); rintro e w2 ⟨rfl, ve2, h3⟩; have HS2 := Lib.hid (HS1.out.trans h3); clear h3))
     exact ⟨rfl, rfl, ve2, HS2.out⟩
    ·skip
     rcases srun_app l (m + 1) [.rule .r_body] [.word ⟨#[101, 110, 100]⟩] i2 d2 out2 r hr2 with ⟨er, jj, rfl, h3⟩ | ⟨i3, d3, out3, h3, hr3⟩
     ·skip
      have HX2 := Lib.hid h2; have HX3 := Lib.hid h3
      have HI1 := Lib.hid hin1
      have HC1 := Lib.hid ((by have h := is_new HPR.out [⟨#[118, 97, 114]⟩, ⟨#[99, 111, 110, 115, 116]⟩, ⟨#[112, 114, 111, 99]⟩] 3 [.string ⟨#[118, 97, 114]⟩, .string ⟨#[99, 111, 110, 115, 116]⟩, .string ⟨#[112, 114, 111, 99]⟩] rfl rfl (by decide) (by decide); rw [HI1.out] at h; exact h))
      clear h2 h3 hin1
      (try clear hr)
      go_wp2_with (first
       | (go_at_call 47; (with_reducible refine Calls.mono HC1.out ?_); rintro e w1 ⟨rfl, hb⟩; have h3 : MStep p ve' wr ve' w1 := PStep.below hb; have HP1 := Lib.hid (HPR.out.moved hb); have HS1 := Lib.hid (HSR.out.trans h3); have HG1 := Lib.hid (mkeep (HTR.out.trans h3) HP0.out HG0.out (by decide) (by decide)); have HT1 := Lib.hid (HTR.out.trans h3); clear bx; have bx := cell_of_row _ _ 0 _ _ _ HG1.out; have HC2 := Lib.hid (words_new HP1.out [⟨#[98, 101, 103, 105, 110]⟩] 1 [.string ⟨#[98, 101, 103, 105, 110]⟩] rfl rfl (by decide) (by decide) HX2.out); clear hb h3)
       | (go_at_call 36; (with_reducible refine Calls.mono HC2.out ?_); rintro e w2 ⟨rfl, ve2, h2, h3⟩; have HP2 := Lib.hid h2; have HS2 := Lib.hid (HS1.out.trans h3); have HG2 := Lib.hid (mkeep (HT1.out.trans h3) HP0.out HG0.out (by decide) (by decide)); have HT2 := Lib.hid (HT1.out.trans h3); clear bx; have bx := cell_of_row _ _ 0 _ _ _ HG2.out; have HC3 := Lib.hid (G_body (m + 1) HM1.out W0 A c w2 p i2 d2 out2 ve2 _ HP2.out HX3.out); clear h2 h3)
       | (go_at_call 51; (with_reducible refine Calls.mono HC3.out ?_); rintro e w3 ⟨rfl, ve3, h3⟩; have HS3 := Lib.hid (HS2.out.trans h3); clear h3))
      exact ⟨rfl, rfl, ve3, HS3.out⟩
     ·skip
      have h4 := hr3
      cases r with
      | ok i4 d4 out4 =>
       have HX2 := Lib.hid h2; have HX3 := Lib.hid h3; have HX4 := Lib.hid h4
       have HI1 := Lib.hid hin1
       have HC1 := Lib.hid ((by have h := is_new HPR.out [⟨#[118, 97, 114]⟩, ⟨#[99, 111, 110, 115, 116]⟩, ⟨#[112, 114, 111, 99]⟩] 3 [.string ⟨#[118, 97, 114]⟩, .string ⟨#[99, 111, 110, 115, 116]⟩, .string ⟨#[112, 114, 111, 99]⟩] rfl rfl (by decide) (by decide); rw [HI1.out] at h; exact h))
       clear h2 h3 h4 hin1
       (try clear hr)
       go_wp2_with (first
        | (go_at_call 47; (with_reducible refine Calls.mono HC1.out ?_); rintro e w1 ⟨rfl, hb⟩; have h3 : MStep p ve' wr ve' w1 := PStep.below hb; have HP1 := Lib.hid (HPR.out.moved hb); have HS1 := Lib.hid (HSR.out.trans h3); have HG1 := Lib.hid (mkeep (HTR.out.trans h3) HP0.out HG0.out (by decide) (by decide)); have HT1 := Lib.hid (HTR.out.trans h3); clear bx; have bx := cell_of_row _ _ 0 _ _ _ HG1.out; have HC2 := Lib.hid (words_new HP1.out [⟨#[98, 101, 103, 105, 110]⟩] 1 [.string ⟨#[98, 101, 103, 105, 110]⟩] rfl rfl (by decide) (by decide) HX2.out); clear hb h3)
        | (go_at_call 36; (with_reducible refine Calls.mono HC2.out ?_); rintro e w2 ⟨rfl, ve2, h2, h3⟩; have HP2 := Lib.hid h2; have HS2 := Lib.hid (HS1.out.trans h3); have HG2 := Lib.hid (mkeep (HT1.out.trans h3) HP0.out HG0.out (by decide) (by decide)); have HT2 := Lib.hid (HT1.out.trans h3); clear bx; have bx := cell_of_row _ _ 0 _ _ _ HG2.out; have HC3 := Lib.hid (G_body (m + 1) HM1.out W0 A c w2 p i2 d2 out2 ve2 _ HP2.out HX3.out); clear h2 h3)
        | (go_at_call 51; (with_reducible refine Calls.mono HC3.out ?_); rintro e w3 ⟨rfl, ve3, h2, h3⟩; have HP3 := Lib.hid h2; have HS3 := Lib.hid (HS2.out.trans h3); have HG3 := Lib.hid (mkeep (HT2.out.trans h3) HP0.out HG0.out (by decide) (by decide)); have HT3 := Lib.hid (HT2.out.trans h3); clear bx; have bx := cell_of_row _ _ 0 _ _ _ HG3.out; have HC4 := Lib.hid (words_new HP3.out [⟨#[101, 110, 100]⟩] 1 [.string ⟨#[101, 110, 100]⟩] rfl rfl (by decide) (by decide) HX4.out); clear h2 h3)
        | (go_at_call 36; (with_reducible refine Calls.mono HC4.out ?_); rintro e w4 ⟨rfl, ve4, h2, h3⟩; have HP4 := Lib.hid h2; have HS4 := Lib.hid (HS3.out.trans h3); have HG4 := Lib.hid (mkeep (HT3.out.trans h3) HP0.out HG0.out (by decide) (by decide)); have HT4 := Lib.hid (HT3.out.trans h3); clear bx; have bx := cell_of_row _ _ 0 _ _ _ HG4.out; clear h2 h3))
       go_end0
       exact ⟨rfl, ve4, HP4.out, HS4.out⟩
      | err er jj =>
       have HX2 := Lib.hid h2; have HX3 := Lib.hid h3; have HX4 := Lib.hid h4
       have HI1 := Lib.hid hin1
       have HC1 := Lib.hid ((by have h := is_new HPR.out [⟨#[118, 97, 114]⟩, ⟨#[99, 111, 110, 115, 116]⟩, ⟨#[112, 114, 111, 99]⟩] 3 [.string ⟨#[118, 97, 114]⟩, .string ⟨#[99, 111, 110, 115, 116]⟩, .string ⟨#[112, 114, 111, 99]⟩] rfl rfl (by decide) (by decide); rw [HI1.out] at h; exact h))
       clear h2 h3 h4 hin1
       (try clear hr)
       go_wp2_with (first
        | (go_at_call 47; (with_reducible refine Calls.mono HC1.out ?_); rintro e w1 ⟨rfl, hb⟩; have h3 : MStep p ve' wr ve' w1 := PStep.below hb; have HP1 := Lib.hid (HPR.out.moved hb); have HS1 := Lib.hid (HSR.out.trans h3); have HG1 := Lib.hid (mkeep (HTR.out.trans h3) HP0.out HG0.out (by decide) (by decide)); have HT1 := Lib.hid (HTR.out.trans h3); clear bx; have bx := cell_of_row _ _ 0 _ _ _ HG1.out; have HC2 := Lib.hid (words_new HP1.out [⟨#[98, 101, 103, 105, 110]⟩] 1 [.string ⟨#[98, 101, 103, 105, 110]⟩] rfl rfl (by decide) (by decide) HX2.out); clear hb h3)
        | (go_at_call 36; (with_reducible refine Calls.mono HC2.out ?_); rintro e w2 ⟨rfl, ve2, h2, h3⟩; have HP2 := Lib.hid h2; have HS2 := Lib.hid (HS1.out.trans h3); have HG2 := Lib.hid (mkeep (HT1.out.trans h3) HP0.out HG0.out (by decide) (by decide)); have HT2 := Lib.hid (HT1.out.trans h3); clear bx; have bx := cell_of_row _ _ 0 _ _ _ HG2.out; have HC3 := Lib.hid (G_body (m + 1) HM1.out W0 A c w2 p i2 d2 out2 ve2 _ HP2.out HX3.out); clear h2 h3)
        | (go_at_call 51; (with_reducible refine Calls.mono HC3.out ?_); rintro e w3 ⟨rfl, ve3, h2, h3⟩; have HP3 := Lib.hid h2; have HS3 := Lib.hid (HS2.out.trans h3); have HG3 := Lib.hid (mkeep (HT2.out.trans h3) HP0.out HG0.out (by decide) (by decide)); have HT3 := Lib.hid (HT2.out.trans h3); clear bx; have bx := cell_of_row _ _ 0 _ _ _ HG3.out; have HC4 := Lib.hid (words_new HP3.out [⟨#[101, 110, 100]⟩] 1 [.string ⟨#[101, 110, 100]⟩] rfl rfl (by decide) (by decide) HX4.out); clear h2 h3)
        | (go_at_call 36; (with_reducible refine Calls.mono HC4.out ?_); rintro e w4 ⟨rfl, ve4, h3⟩; have HS4 := Lib.hid (HS3.out.trans h3); clear h3))
       exact ⟨rfl, rfl, ve4, HS4.out⟩
end Go.Proofs.YtmjbpgnjgblnmaaGreat
namespace Go.Proofs.YtmjbpgnjgblnmaaGreat
open Go.RowKit Go.Proofs.YtmjbpgnjgblnmaaGreatW.PrintWords Go.Proofs.YtmjbpgnjgblnmaaGreatW.PrintLast Go.Proofs.YtmjbpgnjgblnmaaGreatW.PrintMore
theorem yes_elif {cc : ByteArray} (h : inL cc [⟨#[101, 108, 105, 102]⟩] = true) : RId.expand .r_elses cc = some [.push [.word ⟨#[101, 108, 105, 102]⟩, .rule .r_expr, .word ⟨#[116, 104, 101, 110]⟩, .rule .r_body, .rule .r_elses]] := by
 rw [one_of h]
 rfl
theorem yes_elses {cc : ByteArray} (h : inL cc [⟨#[101, 108, 115, 101]⟩] = true) : RId.expand .r_elses cc = some [.push [.word ⟨#[101, 108, 115, 101]⟩, .rule .r_body]] := by
 rw [one_of h]
 rfl
theorem no_elses {cc : ByteArray} (h0 : inL cc [⟨#[101, 108, 105, 102]⟩] = false) (h : inL cc [⟨#[101, 108, 115, 101]⟩] = false) : RId.expand .r_elses cc = some [] := by
 simp only [RId.expand]
 rw [if_neg (none_of h0 _ List.mem_cons_self), if_neg (none_of h _ List.mem_cons_self)]
set_option maxRecDepth 100000 in
set_option maxHeartbeats 8000000 in
theorem g_choice (l : List Tk) (N : Nat) (G_expr : Good l N 65 [.rule .r_expr]) (G_body : Good l N 51 [.rule .r_body]) : Good l N 97 [.word ⟨#[105, 102]⟩, .rule .r_expr, .word ⟨#[116, 104, 101, 110]⟩, .rule .r_body, .rule .r_elses, .word ⟨#[101, 110, 100]⟩] := by
 intro n hn W0 A c w0 p i d out ve r H hr
 show Calls Tryz.prog 97 _ w0 _
 have HP0 := Lib.hid H
 have HNN := Lib.hid hn
 have HS0 := Lib.hid (PStep.refl p (.slice none 0 0) ve w0)
 have hr0 : srun l n ⟨([.word ⟨#[105, 102]⟩] ++ ([.rule .r_expr] ++ ([.word ⟨#[116, 104, 101, 110]⟩] ++ ([.rule .r_body] ++ [.rule .r_elses, .word ⟨#[101, 110, 100]⟩])))), i, d, out⟩ = some r := hr
 clear H hn hr
 rcases srun_app l n [.word ⟨#[105, 102]⟩] ([.rule .r_expr] ++ ([.word ⟨#[116, 104, 101, 110]⟩] ++ ([.rule .r_body] ++ [.rule .r_elses, .word ⟨#[101, 110, 100]⟩]))) i d out r hr0 with ⟨er, jj, rfl, h1⟩ | ⟨i1, d1, out1, h1, hr1⟩
 ·skip
  have HX1 := Lib.hid h1
  have HC1 := Lib.hid (words_new HP0.out [⟨#[105, 102]⟩] 1 [.string ⟨#[105, 102]⟩] rfl rfl (by decide) (by decide) HX1.out)
  clear h1
  (try clear hr)
  go_enter Tryz.func97, Tryz.ntmps97
  go_wp2_with (first
   | (go_at_call 36; (with_reducible refine Calls.mono HC1.out ?_); rintro e w1 ⟨rfl, ve1, h3⟩; have HS1 := Lib.hid (HS0.out.trans h3); clear h3))
  exact ⟨rfl, rfl, ve1, HS1.out⟩
 ·skip
  rcases srun_app l n [.rule .r_expr] ([.word ⟨#[116, 104, 101, 110]⟩] ++ ([.rule .r_body] ++ [.rule .r_elses, .word ⟨#[101, 110, 100]⟩])) i1 d1 out1 r hr1 with ⟨er, jj, rfl, h2⟩ | ⟨i2, d2, out2, h2, hr2⟩
  ·skip
   have HX1 := Lib.hid h1; have HX2 := Lib.hid h2
   have HC1 := Lib.hid (words_new HP0.out [⟨#[105, 102]⟩] 1 [.string ⟨#[105, 102]⟩] rfl rfl (by decide) (by decide) HX1.out)
   clear h1 h2
   (try clear hr)
   go_enter Tryz.func97, Tryz.ntmps97
   go_wp2_with (first
    | (go_at_call 36; (with_reducible refine Calls.mono HC1.out ?_); rintro e w1 ⟨rfl, ve1, h2, h3⟩; have HP1 := Lib.hid h2; have HS1 := Lib.hid (HS0.out.trans h3); have HC2 := Lib.hid (G_expr n HNN.out W0 A c w1 p i1 d1 out1 ve1 _ HP1.out HX2.out); clear h2 h3)
    | (go_at_call 65; (with_reducible refine Calls.mono HC2.out ?_); rintro e w2 ⟨rfl, ve2, h3⟩; have HS2 := Lib.hid (HS1.out.trans h3); clear h3))
   exact ⟨rfl, rfl, ve2, HS2.out⟩
  ·skip
   rcases srun_app l n [.word ⟨#[116, 104, 101, 110]⟩] ([.rule .r_body] ++ [.rule .r_elses, .word ⟨#[101, 110, 100]⟩]) i2 d2 out2 r hr2 with ⟨er, jj, rfl, h3⟩ | ⟨i3, d3, out3, h3, hr3⟩
   ·skip
    have HX1 := Lib.hid h1; have HX2 := Lib.hid h2; have HX3 := Lib.hid h3
    have HC1 := Lib.hid (words_new HP0.out [⟨#[105, 102]⟩] 1 [.string ⟨#[105, 102]⟩] rfl rfl (by decide) (by decide) HX1.out)
    clear h1 h2 h3
    (try clear hr)
    go_enter Tryz.func97, Tryz.ntmps97
    go_wp2_with (first
     | (go_at_call 36; (with_reducible refine Calls.mono HC1.out ?_); rintro e w1 ⟨rfl, ve1, h2, h3⟩; have HP1 := Lib.hid h2; have HS1 := Lib.hid (HS0.out.trans h3); have HC2 := Lib.hid (G_expr n HNN.out W0 A c w1 p i1 d1 out1 ve1 _ HP1.out HX2.out); clear h2 h3)
     | (go_at_call 65; (with_reducible refine Calls.mono HC2.out ?_); rintro e w2 ⟨rfl, ve2, h2, h3⟩; have HP2 := Lib.hid h2; have HS2 := Lib.hid (HS1.out.trans h3); have HC3 := Lib.hid (words_new HP2.out [⟨#[116, 104, 101, 110]⟩] 1 [.string ⟨#[116, 104, 101, 110]⟩] rfl rfl (by decide) (by decide) HX3.out); clear h2 h3)
     | (go_at_call 36; (with_reducible refine Calls.mono HC3.out ?_); rintro e w3 ⟨rfl, ve3, h3⟩; have HS3 := Lib.hid (HS2.out.trans h3); clear h3))
    exact ⟨rfl, rfl, ve3, HS3.out⟩
   ·skip
    rcases srun_app l n [.rule .r_body] [.rule .r_elses, .word ⟨#[101, 110, 100]⟩] i3 d3 out3 r hr3 with ⟨er, jj, rfl, h4⟩ | ⟨i4, d4, out4, h4, hr4⟩
    ·skip
     have HX1 := Lib.hid h1; have HX2 := Lib.hid h2; have HX3 := Lib.hid h3; have HX4 := Lib.hid h4
     have HC1 := Lib.hid (words_new HP0.out [⟨#[105, 102]⟩] 1 [.string ⟨#[105, 102]⟩] rfl rfl (by decide) (by decide) HX1.out)
     clear h1 h2 h3 h4
     (try clear hr)
     go_enter Tryz.func97, Tryz.ntmps97
     go_wp2_with (first
      | (go_at_call 36; (with_reducible refine Calls.mono HC1.out ?_); rintro e w1 ⟨rfl, ve1, h2, h3⟩; have HP1 := Lib.hid h2; have HS1 := Lib.hid (HS0.out.trans h3); have HC2 := Lib.hid (G_expr n HNN.out W0 A c w1 p i1 d1 out1 ve1 _ HP1.out HX2.out); clear h2 h3)
      | (go_at_call 65; (with_reducible refine Calls.mono HC2.out ?_); rintro e w2 ⟨rfl, ve2, h2, h3⟩; have HP2 := Lib.hid h2; have HS2 := Lib.hid (HS1.out.trans h3); have HC3 := Lib.hid (words_new HP2.out [⟨#[116, 104, 101, 110]⟩] 1 [.string ⟨#[116, 104, 101, 110]⟩] rfl rfl (by decide) (by decide) HX3.out); clear h2 h3)
      | (go_at_call 36; (with_reducible refine Calls.mono HC3.out ?_); rintro e w3 ⟨rfl, ve3, h2, h3⟩; have HP3 := Lib.hid h2; have HS3 := Lib.hid (HS2.out.trans h3); have HC4 := Lib.hid (G_body n HNN.out W0 A c w3 p i3 d3 out3 ve3 _ HP3.out HX4.out); clear h2 h3)
      | (go_at_call 51; (with_reducible refine Calls.mono HC4.out ?_); rintro e w4 ⟨rfl, ve4, h3⟩; have HS4 := Lib.hid (HS3.out.trans h3); clear h3))
     exact ⟨rfl, rfl, ve4, HS4.out⟩
    ·skip
     have HRJ := Lib.hid hr4
     clear hr4
     have HX1 := Lib.hid h1; have HX2 := Lib.hid h2; have HX3 := Lib.hid h3; have HX4 := Lib.hid h4
     have HC1 := Lib.hid (words_new HP0.out [⟨#[105, 102]⟩] 1 [.string ⟨#[105, 102]⟩] rfl rfl (by decide) (by decide) HX1.out)
     clear h1 h2 h3 h4
     (try clear hr)
     go_enter Tryz.func97, Tryz.ntmps97
     go_wp2_with (first
      | (go_at_call 36; (with_reducible refine Calls.mono HC1.out ?_); rintro e w1 ⟨rfl, ve1, h2, h3⟩; have HP1 := Lib.hid h2; have HS1 := Lib.hid (HS0.out.trans h3); have HC2 := Lib.hid (G_expr n HNN.out W0 A c w1 p i1 d1 out1 ve1 _ HP1.out HX2.out); clear h2 h3)
      | (go_at_call 65; (with_reducible refine Calls.mono HC2.out ?_); rintro e w2 ⟨rfl, ve2, h2, h3⟩; have HP2 := Lib.hid h2; have HS2 := Lib.hid (HS1.out.trans h3); have HC3 := Lib.hid (words_new HP2.out [⟨#[116, 104, 101, 110]⟩] 1 [.string ⟨#[116, 104, 101, 110]⟩] rfl rfl (by decide) (by decide) HX3.out); clear h2 h3)
      | (go_at_call 36; (with_reducible refine Calls.mono HC3.out ?_); rintro e w3 ⟨rfl, ve3, h2, h3⟩; have HP3 := Lib.hid h2; have HS3 := Lib.hid (HS2.out.trans h3); have HC4 := Lib.hid (G_body n HNN.out W0 A c w3 p i3 d3 out3 ve3 _ HP3.out HX4.out); clear h2 h3)
      | (go_at_call 51; (with_reducible refine Calls.mono HC4.out ?_); rintro e w4 ⟨rfl, ve4, h2, h3⟩; have HP4 := Lib.hid h2; have HS4 := Lib.hid (HS3.out.trans h3); clear h2 h3))
     have HI0 : Hid (SAt W0 A c l w4 p i4 d4 out4 ve4 ∧ MStep p ve w0 ve4 w4 ∧ srun l n ⟨(.rule .r_elses :: [.word ⟨#[101, 110, 100]⟩]), i4, d4, out4⟩ = some r) := Lib.hid ⟨HP4.out, HS4.out, HRJ.out⟩
     clear HP4 HS4
     clear HRJ
     go_loopg [12] n (fun kq vx wr => Hid (∃ i' d' out' ve', SAt W0 A c l wr p i' d' out' ve' ∧ MStep p ve w0 ve' wr ∧ kq ≤ n ∧ srun l kq ⟨(.rule .r_elses :: [.word ⟨#[101, 110, 100]⟩]), i', d', out'⟩ = some r))
     case atStart => exact Lib.hid ⟨_, _, _, _, HI0.out.1, HI0.out.2.1, Nat.le_refl _, HI0.out.2.2⟩
     case round =>
      obtain ⟨i', d', out', ve', hA, hS, hkn, hrun⟩ := hrel.out
      clear HI0 hrel
      cases gk with
      | zero => exact absurd hrun (by simp [srun])
      | succ m =>
       have HPR := Lib.hid hA
       have HSR := Lib.hid hS
       skip
       have HM1 : Hid (m + 1 ≤ N) := Lib.hid (Nat.le_trans hkn HNN.out)
       have HMN : Hid (m ≤ N) := Lib.hid (Nat.le_trans (Nat.le_succ m) HM1.out)
       have HKN : Hid (m ≤ n) := Lib.hid (Nat.le_trans (Nat.le_succ m) hkn)
       clear hA hS hkn
       by_cases hin5' : inL (cAt l i') [⟨#[101, 108, 105, 102]⟩] = true
       ·have hin5 := hin5'
        clear hin5'
        have hr5 : srun l m ⟨([.word ⟨#[101, 108, 105, 102]⟩] ++ ([.rule .r_expr] ++ ([.word ⟨#[116, 104, 101, 110]⟩] ++ ([.rule .r_body] ++ [.rule .r_elses, .word ⟨#[101, 110, 100]⟩])))), i', d', out'⟩ = some r := round_push (S := [.word ⟨#[101, 110, 100]⟩]) (yes_elif hin5) hrun
        clear hrun
        rcases srun_app l m [.word ⟨#[101, 108, 105, 102]⟩] ([.rule .r_expr] ++ ([.word ⟨#[116, 104, 101, 110]⟩] ++ ([.rule .r_body] ++ [.rule .r_elses, .word ⟨#[101, 110, 100]⟩]))) i' d' out' r hr5 with ⟨er, jj, rfl, h6⟩ | ⟨i6, d6, out6, h6, hr6⟩
        ·skip
         have HX6 := Lib.hid h6
         have HI5 := Lib.hid hin5
         have HC5 := Lib.hid ((by have h := is_new HPR.out [⟨#[101, 108, 105, 102]⟩] 1 [.string ⟨#[101, 108, 105, 102]⟩] rfl rfl (by decide) (by decide); rw [HI5.out] at h; exact h))
         clear h6 hin5
         (try clear hr)
         go_wp2_with (first
          | (go_at_call 47; (with_reducible refine Calls.mono HC5.out ?_); rintro e w5 ⟨rfl, hb⟩; have h3 : MStep p ve' wr ve' w5 := PStep.below hb; have HP5 := Lib.hid (HPR.out.moved hb); have HS5 := Lib.hid (HSR.out.trans h3); have HC6 := Lib.hid (words_new HP5.out [⟨#[101, 108, 105, 102]⟩] 1 [.string ⟨#[101, 108, 105, 102]⟩] rfl rfl (by decide) (by decide) HX6.out); clear hb h3)
          | (go_at_call 36; (with_reducible refine Calls.mono HC6.out ?_); rintro e w6 ⟨rfl, ve6, h3⟩; have HS6 := Lib.hid (HS5.out.trans h3); clear h3))
         exact ⟨rfl, rfl, ve6, HS6.out⟩
        ·skip
         rcases srun_app l m [.rule .r_expr] ([.word ⟨#[116, 104, 101, 110]⟩] ++ ([.rule .r_body] ++ [.rule .r_elses, .word ⟨#[101, 110, 100]⟩])) i6 d6 out6 r hr6 with ⟨er, jj, rfl, h7⟩ | ⟨i7, d7, out7, h7, hr7⟩
         ·skip
          have HX6 := Lib.hid h6; have HX7 := Lib.hid h7
          have HI5 := Lib.hid hin5
          have HC5 := Lib.hid ((by have h := is_new HPR.out [⟨#[101, 108, 105, 102]⟩] 1 [.string ⟨#[101, 108, 105, 102]⟩] rfl rfl (by decide) (by decide); rw [HI5.out] at h; exact h))
          clear h6 h7 hin5
          (try clear hr)
          go_wp2_with (first
           | (go_at_call 47; (with_reducible refine Calls.mono HC5.out ?_); rintro e w5 ⟨rfl, hb⟩; have h3 : MStep p ve' wr ve' w5 := PStep.below hb; have HP5 := Lib.hid (HPR.out.moved hb); have HS5 := Lib.hid (HSR.out.trans h3); have HC6 := Lib.hid (words_new HP5.out [⟨#[101, 108, 105, 102]⟩] 1 [.string ⟨#[101, 108, 105, 102]⟩] rfl rfl (by decide) (by decide) HX6.out); clear hb h3)
           | (go_at_call 36; (with_reducible refine Calls.mono HC6.out ?_); rintro e w6 ⟨rfl, ve6, h2, h3⟩; have HP6 := Lib.hid h2; have HS6 := Lib.hid (HS5.out.trans h3); have HC7 := Lib.hid (G_expr m HMN.out W0 A c w6 p i6 d6 out6 ve6 _ HP6.out HX7.out); clear h2 h3)
           | (go_at_call 65; (with_reducible refine Calls.mono HC7.out ?_); rintro e w7 ⟨rfl, ve7, h3⟩; have HS7 := Lib.hid (HS6.out.trans h3); clear h3))
          exact ⟨rfl, rfl, ve7, HS7.out⟩
         ·skip
          rcases srun_app l m [.word ⟨#[116, 104, 101, 110]⟩] ([.rule .r_body] ++ [.rule .r_elses, .word ⟨#[101, 110, 100]⟩]) i7 d7 out7 r hr7 with ⟨er, jj, rfl, h8⟩ | ⟨i8, d8, out8, h8, hr8⟩
          ·skip
           have HX6 := Lib.hid h6; have HX7 := Lib.hid h7; have HX8 := Lib.hid h8
           have HI5 := Lib.hid hin5
           have HC5 := Lib.hid ((by have h := is_new HPR.out [⟨#[101, 108, 105, 102]⟩] 1 [.string ⟨#[101, 108, 105, 102]⟩] rfl rfl (by decide) (by decide); rw [HI5.out] at h; exact h))
           clear h6 h7 h8 hin5
           (try clear hr)
           go_wp2_with (first
            | (go_at_call 47; (with_reducible refine Calls.mono HC5.out ?_); rintro e w5 ⟨rfl, hb⟩; have h3 : MStep p ve' wr ve' w5 := PStep.below hb; have HP5 := Lib.hid (HPR.out.moved hb); have HS5 := Lib.hid (HSR.out.trans h3); have HC6 := Lib.hid (words_new HP5.out [⟨#[101, 108, 105, 102]⟩] 1 [.string ⟨#[101, 108, 105, 102]⟩] rfl rfl (by decide) (by decide) HX6.out); clear hb h3)
            | (go_at_call 36; (with_reducible refine Calls.mono HC6.out ?_); rintro e w6 ⟨rfl, ve6, h2, h3⟩; have HP6 := Lib.hid h2; have HS6 := Lib.hid (HS5.out.trans h3); have HC7 := Lib.hid (G_expr m HMN.out W0 A c w6 p i6 d6 out6 ve6 _ HP6.out HX7.out); clear h2 h3)
            | (go_at_call 65; (with_reducible refine Calls.mono HC7.out ?_); rintro e w7 ⟨rfl, ve7, h2, h3⟩; have HP7 := Lib.hid h2; have HS7 := Lib.hid (HS6.out.trans h3); have HC8 := Lib.hid (words_new HP7.out [⟨#[116, 104, 101, 110]⟩] 1 [.string ⟨#[116, 104, 101, 110]⟩] rfl rfl (by decide) (by decide) HX8.out); clear h2 h3)
            | (go_at_call 36; (with_reducible refine Calls.mono HC8.out ?_); rintro e w8 ⟨rfl, ve8, h3⟩; have HS8 := Lib.hid (HS7.out.trans h3); clear h3))
           exact ⟨rfl, rfl, ve8, HS8.out⟩
          ·skip
           rcases srun_app l m [.rule .r_body] [.rule .r_elses, .word ⟨#[101, 110, 100]⟩] i8 d8 out8 r hr8 with ⟨er, jj, rfl, h9⟩ | ⟨i9, d9, out9, h9, hr9⟩
           ·skip
            have HX6 := Lib.hid h6; have HX7 := Lib.hid h7; have HX8 := Lib.hid h8; have HX9 := Lib.hid h9
            have HI5 := Lib.hid hin5
            have HC5 := Lib.hid ((by have h := is_new HPR.out [⟨#[101, 108, 105, 102]⟩] 1 [.string ⟨#[101, 108, 105, 102]⟩] rfl rfl (by decide) (by decide); rw [HI5.out] at h; exact h))
            clear h6 h7 h8 h9 hin5
            (try clear hr)
            go_wp2_with (first
             | (go_at_call 47; (with_reducible refine Calls.mono HC5.out ?_); rintro e w5 ⟨rfl, hb⟩; have h3 : MStep p ve' wr ve' w5 := PStep.below hb; have HP5 := Lib.hid (HPR.out.moved hb); have HS5 := Lib.hid (HSR.out.trans h3); have HC6 := Lib.hid (words_new HP5.out [⟨#[101, 108, 105, 102]⟩] 1 [.string ⟨#[101, 108, 105, 102]⟩] rfl rfl (by decide) (by decide) HX6.out); clear hb h3)
             | (go_at_call 36; (with_reducible refine Calls.mono HC6.out ?_); rintro e w6 ⟨rfl, ve6, h2, h3⟩; have HP6 := Lib.hid h2; have HS6 := Lib.hid (HS5.out.trans h3); have HC7 := Lib.hid (G_expr m HMN.out W0 A c w6 p i6 d6 out6 ve6 _ HP6.out HX7.out); clear h2 h3)
             | (go_at_call 65; (with_reducible refine Calls.mono HC7.out ?_); rintro e w7 ⟨rfl, ve7, h2, h3⟩; have HP7 := Lib.hid h2; have HS7 := Lib.hid (HS6.out.trans h3); have HC8 := Lib.hid (words_new HP7.out [⟨#[116, 104, 101, 110]⟩] 1 [.string ⟨#[116, 104, 101, 110]⟩] rfl rfl (by decide) (by decide) HX8.out); clear h2 h3)
             | (go_at_call 36; (with_reducible refine Calls.mono HC8.out ?_); rintro e w8 ⟨rfl, ve8, h2, h3⟩; have HP8 := Lib.hid h2; have HS8 := Lib.hid (HS7.out.trans h3); have HC9 := Lib.hid (G_body m HMN.out W0 A c w8 p i8 d8 out8 ve8 _ HP8.out HX9.out); clear h2 h3)
             | (go_at_call 51; (with_reducible refine Calls.mono HC9.out ?_); rintro e w9 ⟨rfl, ve9, h3⟩; have HS9 := Lib.hid (HS8.out.trans h3); clear h3))
            exact ⟨rfl, rfl, ve9, HS9.out⟩
           ·skip
            have HRJ := Lib.hid hr9
            clear hr9
            have HX6 := Lib.hid h6; have HX7 := Lib.hid h7; have HX8 := Lib.hid h8; have HX9 := Lib.hid h9
            have HI5 := Lib.hid hin5
            have HC5 := Lib.hid ((by have h := is_new HPR.out [⟨#[101, 108, 105, 102]⟩] 1 [.string ⟨#[101, 108, 105, 102]⟩] rfl rfl (by decide) (by decide); rw [HI5.out] at h; exact h))
            clear h6 h7 h8 h9 hin5
            (try clear hr)
            go_wp2_with (first
             | (go_at_call 47; (with_reducible refine Calls.mono HC5.out ?_); rintro e w5 ⟨rfl, hb⟩; have h3 : MStep p ve' wr ve' w5 := PStep.below hb; have HP5 := Lib.hid (HPR.out.moved hb); have HS5 := Lib.hid (HSR.out.trans h3); have HC6 := Lib.hid (words_new HP5.out [⟨#[101, 108, 105, 102]⟩] 1 [.string ⟨#[101, 108, 105, 102]⟩] rfl rfl (by decide) (by decide) HX6.out); clear hb h3)
             | (go_at_call 36; (with_reducible refine Calls.mono HC6.out ?_); rintro e w6 ⟨rfl, ve6, h2, h3⟩; have HP6 := Lib.hid h2; have HS6 := Lib.hid (HS5.out.trans h3); have HC7 := Lib.hid (G_expr m HMN.out W0 A c w6 p i6 d6 out6 ve6 _ HP6.out HX7.out); clear h2 h3)
             | (go_at_call 65; (with_reducible refine Calls.mono HC7.out ?_); rintro e w7 ⟨rfl, ve7, h2, h3⟩; have HP7 := Lib.hid h2; have HS7 := Lib.hid (HS6.out.trans h3); have HC8 := Lib.hid (words_new HP7.out [⟨#[116, 104, 101, 110]⟩] 1 [.string ⟨#[116, 104, 101, 110]⟩] rfl rfl (by decide) (by decide) HX8.out); clear h2 h3)
             | (go_at_call 36; (with_reducible refine Calls.mono HC8.out ?_); rintro e w8 ⟨rfl, ve8, h2, h3⟩; have HP8 := Lib.hid h2; have HS8 := Lib.hid (HS7.out.trans h3); have HC9 := Lib.hid (G_body m HMN.out W0 A c w8 p i8 d8 out8 ve8 _ HP8.out HX9.out); clear h2 h3)
             | (go_at_call 51; (with_reducible refine Calls.mono HC9.out ?_); rintro e w9 ⟨rfl, ve9, h2, h3⟩; have HP9 := Lib.hid h2; have HS9 := Lib.hid (HS8.out.trans h3); clear h2 h3))
            go_roundg m
            case measure => omega
            case rel => exact Lib.hid ⟨_, _, _, _, HP9.out, HS9.out, HKN.out, HRJ.out⟩
       ·have hin5 : inL (cAt l i') [⟨#[101, 108, 105, 102]⟩] = false := by simpa using hin5'
        clear hin5'
        have hr5 := hrun
        have HEL := Lib.hid hin5
        clear hrun
        by_cases hin6' : inL (cAt l i') [⟨#[101, 108, 115, 101]⟩] = true
        ·have hin6 := hin6'
         clear hin6'
         have hr6 : srun l (m + 1) ⟨([.word ⟨#[101, 108, 115, 101]⟩] ++ ([.rule .r_body] ++ [.word ⟨#[101, 110, 100]⟩])), i', d', out'⟩ = some r := by
          have h := if_yes (S := [.word ⟨#[101, 110, 100]⟩]) (yes_elses hin6) hr5
          exact h
         rcases srun_app l (m + 1) [.word ⟨#[101, 108, 115, 101]⟩] ([.rule .r_body] ++ [.word ⟨#[101, 110, 100]⟩]) i' d' out' r hr6 with ⟨er, jj, rfl, h7⟩ | ⟨i7, d7, out7, h7, hr7⟩
         ·skip
          have HX7 := Lib.hid h7
          have HI5 := Lib.hid hin5; have HI6 := Lib.hid hin6
          have HC5 := Lib.hid ((by have h := is_new HPR.out [⟨#[101, 108, 105, 102]⟩] 1 [.string ⟨#[101, 108, 105, 102]⟩] rfl rfl (by decide) (by decide); rw [HI5.out] at h; exact h))
          clear h7 hin5 hin6
          (try clear hr)
          go_wp2_with (first
           | (go_at_call 47; (with_reducible refine Calls.mono HC5.out ?_); rintro e w5 ⟨rfl, hb⟩; have h3 : MStep p ve' wr ve' w5 := PStep.below hb; have HP5 := Lib.hid (HPR.out.moved hb); have HS5 := Lib.hid (HSR.out.trans h3); have HC6 := Lib.hid ((by have h := is_new HP5.out [⟨#[101, 108, 115, 101]⟩] 1 [.string ⟨#[101, 108, 115, 101]⟩] rfl rfl (by decide) (by decide); rw [HI6.out] at h; exact h)); clear hb h3)
           | (go_at_call 47; (with_reducible refine Calls.mono HC6.out ?_); rintro e w6 ⟨rfl, hb⟩; have h3 : MStep p ve' w5 ve' w6 := PStep.below hb; have HP6 := Lib.hid (HP5.out.moved hb); have HS6 := Lib.hid (HS5.out.trans h3); have HC7 := Lib.hid (words_new HP6.out [⟨#[101, 108, 115, 101]⟩] 1 [.string ⟨#[101, 108, 115, 101]⟩] rfl rfl (by decide) (by decide) HX7.out); clear hb h3)
           | (go_at_call 36; (with_reducible refine Calls.mono HC7.out ?_); rintro e w7 ⟨rfl, ve7, h3⟩; have HS7 := Lib.hid (HS6.out.trans h3); clear h3))
          exact ⟨rfl, rfl, ve7, HS7.out⟩
         ·skip
          rcases srun_app l (m + 1) [.rule .r_body] [.word ⟨#[101, 110, 100]⟩] i7 d7 out7 r hr7 with ⟨er, jj, rfl, h8⟩ | ⟨i8, d8, out8, h8, hr8⟩
          ·skip
           have HX7 := Lib.hid h7; have HX8 := Lib.hid h8
           have HI5 := Lib.hid hin5; have HI6 := Lib.hid hin6
           have HC5 := Lib.hid ((by have h := is_new HPR.out [⟨#[101, 108, 105, 102]⟩] 1 [.string ⟨#[101, 108, 105, 102]⟩] rfl rfl (by decide) (by decide); rw [HI5.out] at h; exact h))
           clear h7 h8 hin5 hin6
           (try clear hr)
           go_wp2_with (first
            | (go_at_call 47; (with_reducible refine Calls.mono HC5.out ?_); rintro e w5 ⟨rfl, hb⟩; have h3 : MStep p ve' wr ve' w5 := PStep.below hb; have HP5 := Lib.hid (HPR.out.moved hb); have HS5 := Lib.hid (HSR.out.trans h3); have HC6 := Lib.hid ((by have h := is_new HP5.out [⟨#[101, 108, 115, 101]⟩] 1 [.string ⟨#[101, 108, 115, 101]⟩] rfl rfl (by decide) (by decide); rw [HI6.out] at h; exact h)); clear hb h3)
            | (go_at_call 47; (with_reducible refine Calls.mono HC6.out ?_); rintro e w6 ⟨rfl, hb⟩; have h3 : MStep p ve' w5 ve' w6 := PStep.below hb; have HP6 := Lib.hid (HP5.out.moved hb); have HS6 := Lib.hid (HS5.out.trans h3); have HC7 := Lib.hid (words_new HP6.out [⟨#[101, 108, 115, 101]⟩] 1 [.string ⟨#[101, 108, 115, 101]⟩] rfl rfl (by decide) (by decide) HX7.out); clear hb h3)
            | (go_at_call 36; (with_reducible refine Calls.mono HC7.out ?_); rintro e w7 ⟨rfl, ve7, h2, h3⟩; have HP7 := Lib.hid h2; have HS7 := Lib.hid (HS6.out.trans h3); have HC8 := Lib.hid (G_body (m + 1) HM1.out W0 A c w7 p i7 d7 out7 ve7 _ HP7.out HX8.out); clear h2 h3)
            | (go_at_call 51; (with_reducible refine Calls.mono HC8.out ?_); rintro e w8 ⟨rfl, ve8, h3⟩; have HS8 := Lib.hid (HS7.out.trans h3); clear h3))
           exact ⟨rfl, rfl, ve8, HS8.out⟩
          ·skip
           have h9 := hr8
           cases r with
           | ok i9 d9 out9 =>
            have HX7 := Lib.hid h7; have HX8 := Lib.hid h8; have HX9 := Lib.hid h9
            have HI5 := Lib.hid hin5; have HI6 := Lib.hid hin6
            have HC5 := Lib.hid ((by have h := is_new HPR.out [⟨#[101, 108, 105, 102]⟩] 1 [.string ⟨#[101, 108, 105, 102]⟩] rfl rfl (by decide) (by decide); rw [HI5.out] at h; exact h))
            clear h7 h8 h9 hin5 hin6
            (try clear hr)
            go_wp2_with (first
             | (go_at_call 47; (with_reducible refine Calls.mono HC5.out ?_); rintro e w5 ⟨rfl, hb⟩; have h3 : MStep p ve' wr ve' w5 := PStep.below hb; have HP5 := Lib.hid (HPR.out.moved hb); have HS5 := Lib.hid (HSR.out.trans h3); have HC6 := Lib.hid ((by have h := is_new HP5.out [⟨#[101, 108, 115, 101]⟩] 1 [.string ⟨#[101, 108, 115, 101]⟩] rfl rfl (by decide) (by decide); rw [HI6.out] at h; exact h)); clear hb h3)
             | (go_at_call 47; (with_reducible refine Calls.mono HC6.out ?_); rintro e w6 ⟨rfl, hb⟩; have h3 : MStep p ve' w5 ve' w6 := PStep.below hb; have HP6 := Lib.hid (HP5.out.moved hb); have HS6 := Lib.hid (HS5.out.trans h3); have HC7 := Lib.hid (words_new HP6.out [⟨#[101, 108, 115, 101]⟩] 1 [.string ⟨#[101, 108, 115, 101]⟩] rfl rfl (by decide) (by decide) HX7.out); clear hb h3)
             | (go_at_call 36; (with_reducible refine Calls.mono HC7.out ?_); rintro e w7 ⟨rfl, ve7, h2, h3⟩; have HP7 := Lib.hid h2; have HS7 := Lib.hid (HS6.out.trans h3); have HC8 := Lib.hid (G_body (m + 1) HM1.out W0 A c w7 p i7 d7 out7 ve7 _ HP7.out HX8.out); clear h2 h3)
             | (go_at_call 51; (with_reducible refine Calls.mono HC8.out ?_); rintro e w8 ⟨rfl, ve8, h2, h3⟩; have HP8 := Lib.hid h2; have HS8 := Lib.hid (HS7.out.trans h3); have HC9 := Lib.hid (words_new HP8.out [⟨#[101, 110, 100]⟩] 1 [.string ⟨#[101, 110, 100]⟩] rfl rfl (by decide) (by decide) HX9.out); clear h2 h3)
             | (go_at_call 36; (with_reducible refine Calls.mono HC9.out ?_); rintro e w9 ⟨rfl, ve9, h2, h3⟩; have HP9 := Lib.hid h2; have HS9 := Lib.hid (HS8.out.trans h3); clear h2 h3))
            go_end0
            exact ⟨rfl, ve9, HP9.out, HS9.out⟩
           | err er jj =>
            have HX7 := Lib.hid h7; have HX8 := Lib.hid h8; have HX9 := Lib.hid h9
            have HI5 := Lib.hid hin5; have HI6 := Lib.hid hin6
            have HC5 := Lib.hid ((by have h := is_new HPR.out [⟨#[101, 108, 105, 102]⟩] 1 [.string ⟨#[101, 108, 105, 102]⟩] rfl rfl (by decide) (by decide); rw [HI5.out] at h; exact h))
            clear h7 h8 h9 hin5 hin6
            (try clear hr)
            go_wp2_with (first
             | (go_at_call 47; (with_reducible refine Calls.mono HC5.out ?_); rintro e w5 ⟨rfl, hb⟩; have h3 : MStep p ve' wr ve' w5 := PStep.below hb; have HP5 := Lib.hid (HPR.out.moved hb); have HS5 := Lib.hid (HSR.out.trans h3); have HC6 := Lib.hid ((by have h := is_new HP5.out [⟨#[101, 108, 115, 101]⟩] 1 [.string ⟨#[101, 108, 115, 101]⟩] rfl rfl (by decide) (by decide); rw [HI6.out] at h; exact h)); clear hb h3)
             | (go_at_call 47; (with_reducible refine Calls.mono HC6.out ?_); rintro e w6 ⟨rfl, hb⟩; have h3 : MStep p ve' w5 ve' w6 := PStep.below hb; have HP6 := Lib.hid (HP5.out.moved hb); have HS6 := Lib.hid (HS5.out.trans h3); have HC7 := Lib.hid (words_new HP6.out [⟨#[101, 108, 115, 101]⟩] 1 [.string ⟨#[101, 108, 115, 101]⟩] rfl rfl (by decide) (by decide) HX7.out); clear hb h3)
             | (go_at_call 36; (with_reducible refine Calls.mono HC7.out ?_); rintro e w7 ⟨rfl, ve7, h2, h3⟩; have HP7 := Lib.hid h2; have HS7 := Lib.hid (HS6.out.trans h3); have HC8 := Lib.hid (G_body (m + 1) HM1.out W0 A c w7 p i7 d7 out7 ve7 _ HP7.out HX8.out); clear h2 h3)
             | (go_at_call 51; (with_reducible refine Calls.mono HC8.out ?_); rintro e w8 ⟨rfl, ve8, h2, h3⟩; have HP8 := Lib.hid h2; have HS8 := Lib.hid (HS7.out.trans h3); have HC9 := Lib.hid (words_new HP8.out [⟨#[101, 110, 100]⟩] 1 [.string ⟨#[101, 110, 100]⟩] rfl rfl (by decide) (by decide) HX9.out); clear h2 h3)
             | (go_at_call 36; (with_reducible refine Calls.mono HC9.out ?_); rintro e w9 ⟨rfl, ve9, h3⟩; have HS9 := Lib.hid (HS8.out.trans h3); clear h3))
            exact ⟨rfl, rfl, ve9, HS9.out⟩
        ·have hin6 : inL (cAt l i') [⟨#[101, 108, 115, 101]⟩] = false := by simpa using hin6'
         clear hin6'
         have hr6 : srun l (m + 1) ⟨[.word ⟨#[101, 110, 100]⟩], i', d', out'⟩ = some r := if_no (no_elses HEL.out hin6) hr5
         have h7 := hr6
         cases r with
         | ok i7 d7 out7 =>
          have HX7 := Lib.hid h7
          have HI5 := Lib.hid hin5; have HI6 := Lib.hid hin6
          have HC5 := Lib.hid ((by have h := is_new HPR.out [⟨#[101, 108, 105, 102]⟩] 1 [.string ⟨#[101, 108, 105, 102]⟩] rfl rfl (by decide) (by decide); rw [HI5.out] at h; exact h))
          clear h7 hin5 hin6
          (try clear hr)
          go_wp2_with (first
           | (go_at_call 47; (with_reducible refine Calls.mono HC5.out ?_); rintro e w5 ⟨rfl, hb⟩; have h3 : MStep p ve' wr ve' w5 := PStep.below hb; have HP5 := Lib.hid (HPR.out.moved hb); have HS5 := Lib.hid (HSR.out.trans h3); have HC6 := Lib.hid ((by have h := is_new HP5.out [⟨#[101, 108, 115, 101]⟩] 1 [.string ⟨#[101, 108, 115, 101]⟩] rfl rfl (by decide) (by decide); rw [HI6.out] at h; exact h)); clear hb h3)
           | (go_at_call 47; (with_reducible refine Calls.mono HC6.out ?_); rintro e w6 ⟨rfl, hb⟩; have h3 : MStep p ve' w5 ve' w6 := PStep.below hb; have HP6 := Lib.hid (HP5.out.moved hb); have HS6 := Lib.hid (HS5.out.trans h3); have HC7 := Lib.hid (words_new HP6.out [⟨#[101, 110, 100]⟩] 1 [.string ⟨#[101, 110, 100]⟩] rfl rfl (by decide) (by decide) HX7.out); clear hb h3)
           | (go_at_call 36; (with_reducible refine Calls.mono HC7.out ?_); rintro e w7 ⟨rfl, ve7, h2, h3⟩; have HP7 := Lib.hid h2; have HS7 := Lib.hid (HS6.out.trans h3); clear h2 h3))
          go_end0
          exact ⟨rfl, ve7, HP7.out, HS7.out⟩
         | err er jj =>
          have HX7 := Lib.hid h7
          have HI5 := Lib.hid hin5; have HI6 := Lib.hid hin6
          have HC5 := Lib.hid ((by have h := is_new HPR.out [⟨#[101, 108, 105, 102]⟩] 1 [.string ⟨#[101, 108, 105, 102]⟩] rfl rfl (by decide) (by decide); rw [HI5.out] at h; exact h))
          clear h7 hin5 hin6
          (try clear hr)
          go_wp2_with (first
           | (go_at_call 47; (with_reducible refine Calls.mono HC5.out ?_); rintro e w5 ⟨rfl, hb⟩; have h3 : MStep p ve' wr ve' w5 := PStep.below hb; have HP5 := Lib.hid (HPR.out.moved hb); have HS5 := Lib.hid (HSR.out.trans h3); have HC6 := Lib.hid ((by have h := is_new HP5.out [⟨#[101, 108, 115, 101]⟩] 1 [.string ⟨#[101, 108, 115, 101]⟩] rfl rfl (by decide) (by decide); rw [HI6.out] at h; exact h)); clear hb h3)
           | (go_at_call 47; (with_reducible refine Calls.mono HC6.out ?_); rintro e w6 ⟨rfl, hb⟩; have h3 : MStep p ve' w5 ve' w6 := PStep.below hb; have HP6 := Lib.hid (HP5.out.moved hb); have HS6 := Lib.hid (HS5.out.trans h3); have HC7 := Lib.hid (words_new HP6.out [⟨#[101, 110, 100]⟩] 1 [.string ⟨#[101, 110, 100]⟩] rfl rfl (by decide) (by decide) HX7.out); clear hb h3)
           | (go_at_call 36; (with_reducible refine Calls.mono HC7.out ?_); rintro e w7 ⟨rfl, ve7, h3⟩; have HS7 := Lib.hid (HS6.out.trans h3); clear h3))
          exact ⟨rfl, rfl, ve7, HS7.out⟩
end Go.Proofs.YtmjbpgnjgblnmaaGreat
namespace Go.Proofs.YtmjbpgnjgblnmaaGreat
open Go.RowKit Go.Proofs.YtmjbpgnjgblnmaaGreatW.PrintWords Go.Proofs.YtmjbpgnjgblnmaaGreatW.PrintLast Go.Proofs.YtmjbpgnjgblnmaaGreatW.PrintMore
structure AllG (l : List Tk) (N : Nat) : Prop where
 expr : Good l N 65 [.rule .r_expr]
 body : Good l N 51 [.rule .r_body]
 kind : Good l N 89 [.rule .r_kind]
 block : Good l N 38 [.rule .r_block]
 statement : Good l N 69 [.rule .r_statement]
 factor : Good l N 145 [.rule .r_factor]
 object : Good l N 96 [.rule .r_object]
 rel : Good l N 91 [.rule .r_rel]
 sum : Good l N 119 [.rule .r_sum]
 term : Good l N 135 [.rule .r_term]
 declaration : ∀ n, n ≤ N → ∀ (W0 : World) (A : Option Addr) (c : Nat) (w : World) (p i : Nat) (d : Int) (out : List Ev) (ve : Value) (r : SRes), SAt W0 A c l w p i d out ve → srun l n ⟨[.rule .r_declaration], i, d, out⟩ = some r → inL (cAt l i) [⟨#[118, 97, 114]⟩, ⟨#[99, 111, 110, 115, 116]⟩, ⟨#[112, 114, 111, 99]⟩] = true → Calls Tryz.prog 50 #[.pointer (some ⟨p, 0, none⟩)] w (SPost W0 A c l p ve w r)
theorem good_zero (l : List Tk) (F : FuncId) (T : List WT) : Good l 0 F T := by
 intro n hn W0 A c w p i d out ve r H hr
 obtain rfl : n = 0 := by omega
 exact absurd hr (by simp [srun])
theorem goodC_zero (l : List Tk) (F : FuncId) (T : List WT) : GoodC l 0 F T := by
 intro n hn W0 A c w p g i d out ve r H hg hr
 obtain rfl : n = 0 := by omega
 exact absurd hr (by simp [srun])
theorem allG_zero (l : List Tk) : AllG l 0 :=
 ⟨good_zero l _ _, good_zero l _ _, good_zero l _ _, good_zero l _ _, good_zero l _ _, good_zero l _ _, good_zero l _ _, good_zero l _ _, good_zero l _ _, good_zero l _ _, fun n hn W0 A c w p i d out ve r H hr _ => by
  obtain rfl : n = 0 := by omega
  exact absurd hr (by simp [srun])⟩
theorem allG_succ {l : List Tk} {N : Nat} (G : AllG l N) : AllG l (N + 1) := by
 have typed := g_typed l N (name_any l N) G.kind
 have expr1 := g_expr l N (g_expr_1 l N G.rel)
 have body1 := g_body l N (g_body_1 l N G.statement)
 have kind1 := g_kind l N (name_any l N) (g_kind_1 l N G.expr G.kind) (g_kind_2 l N (by
  cases N with
  | zero => exact goodC_zero l _ _
  | succ M => exact fun n hn => g_kind_2_1 l M (fun n hn => typed n (by omega)) n hn))
 have block1 := g_block l N (g_block_1 l N G.declaration G.body)
 have choice := g_choice l N G.expr G.body
 have other1 := g_other l N (g_other_1 l N G.body G.expr) (g_other_2 l N G.expr) (g_other_3 l N G.body)
 have statement1 := g_statement l N (g_statement_1 l N) (g_statement_2 l N G.object G.expr) choice (g_statement_3 l N G.expr G.body) (g_statement_4 l N G.expr G.body) other1
 have object1 := g_object l N (g_object_1 l N (g_selected l N (g_selected_1 l N G.expr) (g_selected_2 l N) (g_selected_3 l N G.expr)))
 have factor1 := g_factor l N (g_factor_1 l N G.factor) (g_factor_2 l N G.factor) (g_factor_3 l N G.expr) object1
 have rel1 := g_rel l N (g_rel_1 l N G.sum)
 have sum1 := g_sum l N (g_sum_1 l N G.term)
 have term1 := g_term l N (g_term_1 l N G.factor)
 have proc := g_proc l N (g_proc_1 l N (by
  cases N with
  | zero => exact goodC_zero l _ _
  | succ M => exact fun n hn => g_proc_1_1 l M (fun n hn => typed n (by omega)) n hn)) G.kind G.block
 have declaration1 := g_declaration l N (g_declaration_1 l N typed) (g_declaration_2 l N G.expr) proc
 exact ⟨expr1, body1, kind1, block1, statement1, factor1, object1, rel1, sum1, term1, declaration1⟩
theorem allG (l : List Tk) : ∀ N, AllG l N
 | 0 => allG_zero l
 | N + 1 => allG_succ (allG l N)
end Go.Proofs.YtmjbpgnjgblnmaaGreat
namespace Go.Proofs.YtmjbpgnjgblnmaaGreat
open Go.RowKit Go.Proofs.YtmjbpgnjgblnmaaGreatW.PrintWords Go.Proofs.YtmjbpgnjgblnmaaGreatW.PrintLast Go.Proofs.YtmjbpgnjgblnmaaGreatW.PrintMore
def nodeR (k : Nat) : SRes → SRes
 | .ok i d out => .ok i (d - 1) (out ++ [evOf (3, k)])
 | .err e i => .err e i
def endR (l : List Tk) : SRes → SRes
 | .ok i d out => if i < l.length then .err 120 i else .ok i d out
 | .err e i => .err e i
set_option maxRecDepth 100000 in
set_option maxHeartbeats 8000000 in
theorem node_gen {W0 : World} {A : Option Addr} {c : Nat} {l : List Tk} {w : World} {p : Nat} {i : Nat} {d : Int} {out : List Ev} {ve : Value} (H : SAt W0 A c l w p i d out ve) (k : Nat) (F : FuncId) (x : Value) (hen : ∀ w, (callFunc F #[x]).run Tryz.prog w = .ok (.enter F #[x]) w) {r : SRes} (hb : ∀ (w1 : World) (ve1 : Value), MStep p ve w ve1 w1 → SAt W0 A c l w1 p i (d + 1) (out ++ [evOf (1, k)]) ve1 → Calls Tryz.prog F #[x] w1 (SPost W0 A c l p ve1 w1 r)) (hf : fitS ⟨[], i, d + 1, out ++ [evOf (1, k)]⟩) (hf2 : ∀ i2 d2 out2, r = .ok i2 d2 out2 → fitS ⟨[], i2, d2, out2⟩) :
  Calls Tryz.prog 33 #[.pointer (some ⟨p, 0, none⟩), .int .u8 k, .func (.func F) #[] #[x]] w (SPost W0 A c l p ve w (nodeR k r)) := by
 obtain ⟨f1, f2, f3⟩ := hf
 dsimp only at f1 f2 f3
 rw [List.length_append, List.length_singleton] at f1
 have HLO := Lib.hid f1
 obtain ⟨e1, -, e3, -⟩ := d_wrap (d := d) (by omega) (by omega)
 have HSR := Lib.hid (PStep.refl p (.slice none 0 0) ve w)
 have HBO := Lib.hid hb
 have HEQ := Lib.hid hen
 have HH := Lib.hid H
 obtain ⟨q0, q1, q2, q3⟩ := H.cell
 clear f1 f2 f3 hb hen H
 cases r with
 | err er j =>
  clear hf2
  go_enter Tryz.func33, Tryz.ntmps33
  go_wp2_with (first
   | ((with_reducible refine gate_dst (N := 14) rfl ?_); refine wl_ev rfl (.tmp 10) (.tmp 13) rfl p (u := ve) (q := out.length) (kc := (out).flatMap evCells) (cs := [.int .u8 1, .int .u8 k, .int .u8 0, .string ⟨#[]⟩, .int .i64 0, .int .i64 0, .int .i64 0, .int .i64 0]) rfl rfl HH.out.row rfl (evCells_one (evOf (1, k))) (Nat.le_of_lt (blk_lt HH.out.box)) (by have := HLO.out; omega) ?_; intro G1 C1 w1 ho hg hat; obtain ⟨⟨cur, hcur, hfit⟩, hnx⟩ := HH.out.next (e := evOf (1, k)) ho hg hat; have HCU := Lib.hid (And.intro hcur hfit); have HNX := Lib.hid hnx; clear ho hg hat hcur hfit hnx)
   | ((with_reducible refine gate_ (.store 41 (.tmp 16) (.tmp 14)) rfl ?_); refine wl_cells rfl rfl _ _ _ rfl (g := p) (off := 3) (.slice (some ⟨G1, 0, none⟩) (out.length + 1) C1) [.slice (some ⟨G1, 0, none⟩) (out.length + 1) C1] rfl rfl rfl (by kernel_rfl) (fun v hv => by rw [List.mem_singleton.1 hv]; rfl) HCU.out.1 HCU.out.2 ?_; intro V1 hV; obtain ⟨hA, hS⟩ := HNX.out V1 hV; have HP1 := Lib.hid hA; have HS1 := Lib.hid (HSR.out.trans hS); clear q0 q1 q2 q3 hV HNX HCU; obtain ⟨q0, q1, q2, q3⟩ := hA.cell; clear hA hS)
   | ((with_reducible refine gate_ (.store 3 (.tmp 23) (.tmp 21)) rfl ?_); refine wl_cells rfl rfl _ _ _ rfl (g := p) (off := 2) (.int .i64 (d + 1)) [.int .i64 (d + 1)] rfl rfl rfl (by kernel_rfl) (fun v hv => by rw [List.mem_singleton.1 hv]; rfl) HP1.out.box (by simp) ?_; intro V2 hV; obtain ⟨hA, hS⟩ := HP1.out.upd 2 (.int .i64 (d + 1)) (by decide) (i' := i) (d' := d + 1) rfl HP1.out.ile; rw [← hV] at hA hS; have HP2 := Lib.hid hA; have HS2 := Lib.hid (HS1.out.trans hS); clear q0 q1 q2 q3 hV; obtain ⟨q0, q1, q2, q3⟩ := hA.cell; have HEN := HEQ.out V2; have HWI := Lib.hid (HBO.out V2 _ (HS1.out.trans hS) hA); clear hA hS)
   | ((with_reducible refine Calls.mono HWI.out ?_); rintro e w3 ⟨rfl, ve3, h3⟩; have HS3 := Lib.hid (HS2.out.trans h3); clear h3))
  exact ⟨rfl, rfl, ve3, HS3.out⟩
 | ok i2 d2 out2 =>
  obtain ⟨f1, f2, f3⟩ := hf2 i2 d2 out2 rfl
  dsimp only at f1 f2 f3
  have HLO2 := Lib.hid f1
  obtain ⟨-, e5, -, e6⟩ := d_wrap (d := d2) (by omega) (by omega)
  clear hf2 f1 f2 f3
  go_enter Tryz.func33, Tryz.ntmps33
  go_wp2_with (first
   | ((with_reducible refine gate_dst (N := 14) rfl ?_); refine wl_ev rfl (.tmp 10) (.tmp 13) rfl p (u := ve) (q := out.length) (kc := (out).flatMap evCells) (cs := [.int .u8 1, .int .u8 k, .int .u8 0, .string ⟨#[]⟩, .int .i64 0, .int .i64 0, .int .i64 0, .int .i64 0]) rfl rfl HH.out.row rfl (evCells_one (evOf (1, k))) (Nat.le_of_lt (blk_lt HH.out.box)) (by have := HLO.out; omega) ?_; intro G1 C1 w1 ho hg hat; obtain ⟨⟨cur, hcur, hfit⟩, hnx⟩ := HH.out.next (e := evOf (1, k)) ho hg hat; have HCU := Lib.hid (And.intro hcur hfit); have HNX := Lib.hid hnx; clear ho hg hat hcur hfit hnx)
   | ((with_reducible refine gate_ (.store 41 (.tmp 16) (.tmp 14)) rfl ?_); refine wl_cells rfl rfl _ _ _ rfl (g := p) (off := 3) (.slice (some ⟨G1, 0, none⟩) (out.length + 1) C1) [.slice (some ⟨G1, 0, none⟩) (out.length + 1) C1] rfl rfl rfl (by kernel_rfl) (fun v hv => by rw [List.mem_singleton.1 hv]; rfl) HCU.out.1 HCU.out.2 ?_; intro V1 hV; obtain ⟨hA, hS⟩ := HNX.out V1 hV; have HP1 := Lib.hid hA; have HS1 := Lib.hid (HSR.out.trans hS); clear q0 q1 q2 q3 hV HNX HCU; obtain ⟨q0, q1, q2, q3⟩ := hA.cell; clear hA hS)
   | ((with_reducible refine gate_ (.store 3 (.tmp 23) (.tmp 21)) rfl ?_); refine wl_cells rfl rfl _ _ _ rfl (g := p) (off := 2) (.int .i64 (d + 1)) [.int .i64 (d + 1)] rfl rfl rfl (by kernel_rfl) (fun v hv => by rw [List.mem_singleton.1 hv]; rfl) HP1.out.box (by simp) ?_; intro V2 hV; obtain ⟨hA, hS⟩ := HP1.out.upd 2 (.int .i64 (d + 1)) (by decide) (i' := i) (d' := d + 1) rfl HP1.out.ile; rw [← hV] at hA hS; have HP2 := Lib.hid hA; have HS2 := Lib.hid (HS1.out.trans hS); clear q0 q1 q2 q3 hV; obtain ⟨q0, q1, q2, q3⟩ := hA.cell; have HEN := HEQ.out V2; have HWI := Lib.hid (HBO.out V2 _ (HS1.out.trans hS) hA); clear hA hS)
   | ((with_reducible refine Calls.mono HWI.out ?_); rintro e w3 ⟨rfl, ve3, h2, h3⟩; have HP3 := Lib.hid h2; have HS3 := Lib.hid (HS2.out.trans h3); clear q0 q1 q2 q3 h3; obtain ⟨q0, q1, q2, q3⟩ := h2.cell; clear h2)
   | ((with_reducible refine gate_ (.store 3 (.tmp 32) (.tmp 30)) rfl ?_); refine wl_cells rfl rfl _ _ _ rfl (g := p) (off := 2) (.int .i64 (d2 - 1)) [.int .i64 (d2 - 1)] rfl rfl rfl (by kernel_rfl) (fun v hv => by rw [List.mem_singleton.1 hv]; rfl) HP3.out.box (by simp) ?_; intro V4 hV; obtain ⟨hA, hS⟩ := HP3.out.upd 2 (.int .i64 (d2 - 1)) (by decide) (i' := i2) (d' := d2 - 1) rfl HP3.out.ile; rw [← hV] at hA hS; have HP4 := Lib.hid hA; have HS4 := Lib.hid (HS3.out.trans hS); clear q0 q1 q2 q3 hV; obtain ⟨q0, q1, q2, q3⟩ := hA.cell; clear hA hS)
   | ((with_reducible refine gate_dst (N := 41) rfl ?_); refine wl_ev rfl (.tmp 37) (.tmp 40) rfl p (u := ve3) (q := out2.length) (kc := (out2).flatMap evCells) (cs := [.int .u8 3, .int .u8 k, .int .u8 0, .string ⟨#[]⟩, .int .i64 0, .int .i64 0, .int .i64 0, .int .i64 0]) rfl rfl HP4.out.row rfl (evCells_one (evOf (3, k))) (Nat.le_of_lt (blk_lt HP4.out.box)) (by have := HLO2.out; omega) ?_; intro G1 C1 w1 ho hg hat; obtain ⟨⟨cur, hcur, hfit⟩, hnx⟩ := HP4.out.next (e := evOf (3, k)) ho hg hat; have HCU := Lib.hid (And.intro hcur hfit); have HNX := Lib.hid hnx; clear ho hg hat hcur hfit hnx)
   | ((with_reducible refine gate_ (.store 41 (.tmp 43) (.tmp 41)) rfl ?_); refine wl_cells rfl rfl _ _ _ rfl (g := p) (off := 3) (.slice (some ⟨G1, 0, none⟩) (out2.length + 1) C1) [.slice (some ⟨G1, 0, none⟩) (out2.length + 1) C1] rfl rfl rfl (by kernel_rfl) (fun v hv => by rw [List.mem_singleton.1 hv]; rfl) HCU.out.1 HCU.out.2 ?_; intro V5 hV; obtain ⟨hA, hS⟩ := HNX.out V5 hV; have HP5 := Lib.hid hA; have HS5 := Lib.hid (HS4.out.trans hS); clear q0 q1 q2 q3 hV HNX HCU; obtain ⟨q0, q1, q2, q3⟩ := hA.cell; clear hA hS))
  go_end0
  exact ⟨rfl, _, HP5.out, HS5.out⟩
set_option maxRecDepth 100000 in
set_option maxHeartbeats 8000000 in
theorem g_program_1 {W0 : World} {A : Option Addr} {c : Nat} {l : List Tk} {w0 : World} {p g : Nat} {d1 : Int} {out out1 : List Ev} {ve : Value} {i1 : Nat} (hi1 : (nAt l 0).length = i1) (ho1 : out ++ (nAt l 0).map noteE = out1) (hout : out.length ≤ 16) (H : SAt W0 A c l w0 p 0 d1 out ve) (hg : w0.heap[g]? = some (.cells #[.pointer (some ⟨p, 0, none⟩)] 54 (0, 0))) {n : Nat} {r : SRes} (hr : srun l n ⟨[.word ⟨#[112, 114, 111, 103, 114, 97, 109]⟩, .word ⟨#[64, 110, 97, 109, 101]⟩, .word ⟨#[59]⟩, .rule .r_block, .word ⟨#[46]⟩], i1, d1, out1⟩ = some r) :
  Calls Tryz.prog 34 #[.pointer (some ⟨g, 0, none⟩)] w0 (SPost W0 A c l p ve w0 (endR l r)) := by
 have hcom := comments_any H (by omega)
 rw [hi1, ho1, Nat.zero_add] at hcom
 have HCOM := Lib.hid hcom
 show Calls Tryz.prog 34 _ w0 _
 have HP0 := Lib.hid H
 have HG0 := Lib.hid hg
 have HS0 := Lib.hid (PStep.refl p (.slice none 0 0) ve w0)
 have HT0 := HS0
 have bx := cell_of_row _ _ 0 _ _ _ hg
 have hr1 : srun l n ⟨([.word ⟨#[112, 114, 111, 103, 114, 97, 109]⟩] ++ ([.word ⟨#[64, 110, 97, 109, 101]⟩] ++ ([.word ⟨#[59]⟩] ++ ([.rule .r_block] ++ ([.word ⟨#[46]⟩] ++ []))))), i1, d1, out1⟩ = some r := hr
 clear H hg hr hi1 ho1 hout hcom
 rcases srun_app l n [.word ⟨#[112, 114, 111, 103, 114, 97, 109]⟩] ([.word ⟨#[64, 110, 97, 109, 101]⟩] ++ ([.word ⟨#[59]⟩] ++ ([.rule .r_block] ++ ([.word ⟨#[46]⟩] ++ [])))) i1 d1 out1 r hr1 with ⟨er, jj, rfl, h2⟩ | ⟨i2, d2, out2, h2, hr2⟩
 ·skip
  have HX2 := Lib.hid h2
  have HC1 := Lib.hid (HCOM.out)
  clear h2
  (try clear hr)
  go_enter Tryz.func34, Tryz.ntmps34
  go_wp2_with (first
   | (go_at_call 35; (with_reducible refine Calls.mono HC1.out ?_); rintro e w1 ⟨rfl, ve1, h2, h3⟩; have HP1 := Lib.hid h2; have HS1 := Lib.hid (HS0.out.trans h3); have HG1 := Lib.hid (mkeep (HT0.out.trans h3) HP0.out HG0.out (by decide) (by decide)); have HT1 := Lib.hid (HT0.out.trans h3); clear bx; have bx := cell_of_row _ _ 0 _ _ _ HG1.out; have HC2 := Lib.hid (words_new HP1.out [⟨#[112, 114, 111, 103, 114, 97, 109]⟩] 1 [.string ⟨#[112, 114, 111, 103, 114, 97, 109]⟩] rfl rfl (by decide) (by decide) HX2.out); clear h2 h3)
   | (go_at_call 36; (with_reducible refine Calls.mono HC2.out ?_); rintro e w2 ⟨rfl, ve2, h3⟩; have HS2 := Lib.hid (HS1.out.trans h3); clear h3))
  exact ⟨rfl, rfl, ve2, HS2.out⟩
 ·skip
  rcases srun_app l n [.word ⟨#[64, 110, 97, 109, 101]⟩] ([.word ⟨#[59]⟩] ++ ([.rule .r_block] ++ ([.word ⟨#[46]⟩] ++ []))) i2 d2 out2 r hr2 with ⟨er, jj, rfl, h3⟩ | ⟨i3, d3, out3, h3, hr3⟩
  ·skip
   have HX2 := Lib.hid h2; have HX3 := Lib.hid h3
   have HC1 := Lib.hid (HCOM.out)
   clear h2 h3
   (try clear hr)
   go_enter Tryz.func34, Tryz.ntmps34
   go_wp2_with (first
    | (go_at_call 35; (with_reducible refine Calls.mono HC1.out ?_); rintro e w1 ⟨rfl, ve1, h2, h3⟩; have HP1 := Lib.hid h2; have HS1 := Lib.hid (HS0.out.trans h3); have HG1 := Lib.hid (mkeep (HT0.out.trans h3) HP0.out HG0.out (by decide) (by decide)); have HT1 := Lib.hid (HT0.out.trans h3); clear bx; have bx := cell_of_row _ _ 0 _ _ _ HG1.out; have HC2 := Lib.hid (words_new HP1.out [⟨#[112, 114, 111, 103, 114, 97, 109]⟩] 1 [.string ⟨#[112, 114, 111, 103, 114, 97, 109]⟩] rfl rfl (by decide) (by decide) HX2.out); clear h2 h3)
    | (go_at_call 36; (with_reducible refine Calls.mono HC2.out ?_); rintro e w2 ⟨rfl, ve2, h2, h3⟩; have HP2 := Lib.hid h2; have HS2 := Lib.hid (HS1.out.trans h3); have HG2 := Lib.hid (mkeep (HT1.out.trans h3) HP0.out HG0.out (by decide) (by decide)); have HT2 := Lib.hid (HT1.out.trans h3); clear bx; have bx := cell_of_row _ _ 0 _ _ _ HG2.out; have HC3 := Lib.hid (name_any l n n (Nat.le_refl n) W0 A c w2 p i2 d2 out2 ve2 _ HP2.out HX3.out); clear h2 h3)
    | (go_at_call 37; (with_reducible refine Calls.mono HC3.out ?_); rintro e w3 ⟨rfl, ve3, h3⟩; have HS3 := Lib.hid (HS2.out.trans h3); clear h3))
   exact ⟨rfl, rfl, ve3, HS3.out⟩
  ·skip
   rcases srun_app l n [.word ⟨#[59]⟩] ([.rule .r_block] ++ ([.word ⟨#[46]⟩] ++ [])) i3 d3 out3 r hr3 with ⟨er, jj, rfl, h4⟩ | ⟨i4, d4, out4, h4, hr4⟩
   ·skip
    have HX2 := Lib.hid h2; have HX3 := Lib.hid h3; have HX4 := Lib.hid h4
    have HC1 := Lib.hid (HCOM.out)
    clear h2 h3 h4
    (try clear hr)
    go_enter Tryz.func34, Tryz.ntmps34
    go_wp2_with (first
     | (go_at_call 35; (with_reducible refine Calls.mono HC1.out ?_); rintro e w1 ⟨rfl, ve1, h2, h3⟩; have HP1 := Lib.hid h2; have HS1 := Lib.hid (HS0.out.trans h3); have HG1 := Lib.hid (mkeep (HT0.out.trans h3) HP0.out HG0.out (by decide) (by decide)); have HT1 := Lib.hid (HT0.out.trans h3); clear bx; have bx := cell_of_row _ _ 0 _ _ _ HG1.out; have HC2 := Lib.hid (words_new HP1.out [⟨#[112, 114, 111, 103, 114, 97, 109]⟩] 1 [.string ⟨#[112, 114, 111, 103, 114, 97, 109]⟩] rfl rfl (by decide) (by decide) HX2.out); clear h2 h3)
     | (go_at_call 36; (with_reducible refine Calls.mono HC2.out ?_); rintro e w2 ⟨rfl, ve2, h2, h3⟩; have HP2 := Lib.hid h2; have HS2 := Lib.hid (HS1.out.trans h3); have HG2 := Lib.hid (mkeep (HT1.out.trans h3) HP0.out HG0.out (by decide) (by decide)); have HT2 := Lib.hid (HT1.out.trans h3); clear bx; have bx := cell_of_row _ _ 0 _ _ _ HG2.out; have HC3 := Lib.hid (name_any l n n (Nat.le_refl n) W0 A c w2 p i2 d2 out2 ve2 _ HP2.out HX3.out); clear h2 h3)
     | (go_at_call 37; (with_reducible refine Calls.mono HC3.out ?_); rintro e w3 ⟨rfl, ve3, h2, h3⟩; have HP3 := Lib.hid h2; have HS3 := Lib.hid (HS2.out.trans h3); have HG3 := Lib.hid (mkeep (HT2.out.trans h3) HP0.out HG0.out (by decide) (by decide)); have HT3 := Lib.hid (HT2.out.trans h3); clear bx; have bx := cell_of_row _ _ 0 _ _ _ HG3.out; have HC4 := Lib.hid (words_new HP3.out [⟨#[59]⟩] 1 [.string ⟨#[59]⟩] rfl rfl (by decide) (by decide) HX4.out); clear h2 h3)
     | (go_at_call 36; (with_reducible refine Calls.mono HC4.out ?_); rintro e w4 ⟨rfl, ve4, h3⟩; have HS4 := Lib.hid (HS3.out.trans h3); clear h3))
    exact ⟨rfl, rfl, ve4, HS4.out⟩
   ·skip
    rcases srun_app l n [.rule .r_block] ([.word ⟨#[46]⟩] ++ []) i4 d4 out4 r hr4 with ⟨er, jj, rfl, h5⟩ | ⟨i5, d5, out5, h5, hr5⟩
    ·skip
     have HX2 := Lib.hid h2; have HX3 := Lib.hid h3; have HX4 := Lib.hid h4; have HX5 := Lib.hid h5
     have HC1 := Lib.hid (HCOM.out)
     clear h2 h3 h4 h5
     (try clear hr)
     go_enter Tryz.func34, Tryz.ntmps34
     go_wp2_with (first
      | (go_at_call 35; (with_reducible refine Calls.mono HC1.out ?_); rintro e w1 ⟨rfl, ve1, h2, h3⟩; have HP1 := Lib.hid h2; have HS1 := Lib.hid (HS0.out.trans h3); have HG1 := Lib.hid (mkeep (HT0.out.trans h3) HP0.out HG0.out (by decide) (by decide)); have HT1 := Lib.hid (HT0.out.trans h3); clear bx; have bx := cell_of_row _ _ 0 _ _ _ HG1.out; have HC2 := Lib.hid (words_new HP1.out [⟨#[112, 114, 111, 103, 114, 97, 109]⟩] 1 [.string ⟨#[112, 114, 111, 103, 114, 97, 109]⟩] rfl rfl (by decide) (by decide) HX2.out); clear h2 h3)
      | (go_at_call 36; (with_reducible refine Calls.mono HC2.out ?_); rintro e w2 ⟨rfl, ve2, h2, h3⟩; have HP2 := Lib.hid h2; have HS2 := Lib.hid (HS1.out.trans h3); have HG2 := Lib.hid (mkeep (HT1.out.trans h3) HP0.out HG0.out (by decide) (by decide)); have HT2 := Lib.hid (HT1.out.trans h3); clear bx; have bx := cell_of_row _ _ 0 _ _ _ HG2.out; have HC3 := Lib.hid (name_any l n n (Nat.le_refl n) W0 A c w2 p i2 d2 out2 ve2 _ HP2.out HX3.out); clear h2 h3)
      | (go_at_call 37; (with_reducible refine Calls.mono HC3.out ?_); rintro e w3 ⟨rfl, ve3, h2, h3⟩; have HP3 := Lib.hid h2; have HS3 := Lib.hid (HS2.out.trans h3); have HG3 := Lib.hid (mkeep (HT2.out.trans h3) HP0.out HG0.out (by decide) (by decide)); have HT3 := Lib.hid (HT2.out.trans h3); clear bx; have bx := cell_of_row _ _ 0 _ _ _ HG3.out; have HC4 := Lib.hid (words_new HP3.out [⟨#[59]⟩] 1 [.string ⟨#[59]⟩] rfl rfl (by decide) (by decide) HX4.out); clear h2 h3)
      | (go_at_call 36; (with_reducible refine Calls.mono HC4.out ?_); rintro e w4 ⟨rfl, ve4, h2, h3⟩; have HP4 := Lib.hid h2; have HS4 := Lib.hid (HS3.out.trans h3); have HG4 := Lib.hid (mkeep (HT3.out.trans h3) HP0.out HG0.out (by decide) (by decide)); have HT4 := Lib.hid (HT3.out.trans h3); clear bx; have bx := cell_of_row _ _ 0 _ _ _ HG4.out; have HC5 := Lib.hid ((allG l n).block n (Nat.le_refl n) W0 A c w4 p i4 d4 out4 ve4 _ HP4.out HX5.out); clear h2 h3)
      | (go_at_call 38; (with_reducible refine Calls.mono HC5.out ?_); rintro e w5 ⟨rfl, ve5, h3⟩; have HS5 := Lib.hid (HS4.out.trans h3); clear h3))
     exact ⟨rfl, rfl, ve5, HS5.out⟩
    ·skip
     rcases srun_app l n [.word ⟨#[46]⟩] [] i5 d5 out5 r hr5 with ⟨er, jj, rfl, h6⟩ | ⟨i6, d6, out6, h6, hr6⟩
     ·skip
      have HX2 := Lib.hid h2; have HX3 := Lib.hid h3; have HX4 := Lib.hid h4; have HX5 := Lib.hid h5; have HX6 := Lib.hid h6
      have HC1 := Lib.hid (HCOM.out)
      clear h2 h3 h4 h5 h6
      (try clear hr)
      go_enter Tryz.func34, Tryz.ntmps34
      go_wp2_with (first
       | (go_at_call 35; (with_reducible refine Calls.mono HC1.out ?_); rintro e w1 ⟨rfl, ve1, h2, h3⟩; have HP1 := Lib.hid h2; have HS1 := Lib.hid (HS0.out.trans h3); have HG1 := Lib.hid (mkeep (HT0.out.trans h3) HP0.out HG0.out (by decide) (by decide)); have HT1 := Lib.hid (HT0.out.trans h3); clear bx; have bx := cell_of_row _ _ 0 _ _ _ HG1.out; have HC2 := Lib.hid (words_new HP1.out [⟨#[112, 114, 111, 103, 114, 97, 109]⟩] 1 [.string ⟨#[112, 114, 111, 103, 114, 97, 109]⟩] rfl rfl (by decide) (by decide) HX2.out); clear h2 h3)
       | (go_at_call 36; (with_reducible refine Calls.mono HC2.out ?_); rintro e w2 ⟨rfl, ve2, h2, h3⟩; have HP2 := Lib.hid h2; have HS2 := Lib.hid (HS1.out.trans h3); have HG2 := Lib.hid (mkeep (HT1.out.trans h3) HP0.out HG0.out (by decide) (by decide)); have HT2 := Lib.hid (HT1.out.trans h3); clear bx; have bx := cell_of_row _ _ 0 _ _ _ HG2.out; have HC3 := Lib.hid (name_any l n n (Nat.le_refl n) W0 A c w2 p i2 d2 out2 ve2 _ HP2.out HX3.out); clear h2 h3)
       | (go_at_call 37; (with_reducible refine Calls.mono HC3.out ?_); rintro e w3 ⟨rfl, ve3, h2, h3⟩; have HP3 := Lib.hid h2; have HS3 := Lib.hid (HS2.out.trans h3); have HG3 := Lib.hid (mkeep (HT2.out.trans h3) HP0.out HG0.out (by decide) (by decide)); have HT3 := Lib.hid (HT2.out.trans h3); clear bx; have bx := cell_of_row _ _ 0 _ _ _ HG3.out; have HC4 := Lib.hid (words_new HP3.out [⟨#[59]⟩] 1 [.string ⟨#[59]⟩] rfl rfl (by decide) (by decide) HX4.out); clear h2 h3)
       | (go_at_call 36; (with_reducible refine Calls.mono HC4.out ?_); rintro e w4 ⟨rfl, ve4, h2, h3⟩; have HP4 := Lib.hid h2; have HS4 := Lib.hid (HS3.out.trans h3); have HG4 := Lib.hid (mkeep (HT3.out.trans h3) HP0.out HG0.out (by decide) (by decide)); have HT4 := Lib.hid (HT3.out.trans h3); clear bx; have bx := cell_of_row _ _ 0 _ _ _ HG4.out; have HC5 := Lib.hid ((allG l n).block n (Nat.le_refl n) W0 A c w4 p i4 d4 out4 ve4 _ HP4.out HX5.out); clear h2 h3)
       | (go_at_call 38; (with_reducible refine Calls.mono HC5.out ?_); rintro e w5 ⟨rfl, ve5, h2, h3⟩; have HP5 := Lib.hid h2; have HS5 := Lib.hid (HS4.out.trans h3); have HG5 := Lib.hid (mkeep (HT4.out.trans h3) HP0.out HG0.out (by decide) (by decide)); have HT5 := Lib.hid (HT4.out.trans h3); clear bx; have bx := cell_of_row _ _ 0 _ _ _ HG5.out; have HC6 := Lib.hid (words_new HP5.out [⟨#[46]⟩] 1 [.string ⟨#[46]⟩] rfl rfl (by decide) (by decide) HX6.out); clear h2 h3)
       | (go_at_call 36; (with_reducible refine Calls.mono HC6.out ?_); rintro e w6 ⟨rfl, ve6, h3⟩; have HS6 := Lib.hid (HS5.out.trans h3); clear h3))
      exact ⟨rfl, rfl, ve6, HS6.out⟩
     ·skip
      have HRJ := Lib.hid hr6
      clear hr6
      obtain ⟨_, rfl⟩ := srun_fin HRJ.out (q := .ok i6 d6 out6) rfl
      clear HRJ
      have HX2 := Lib.hid h2; have HX3 := Lib.hid h3; have HX4 := Lib.hid h4; have HX5 := Lib.hid h5; have HX6 := Lib.hid h6
      have HC1 := Lib.hid (HCOM.out)
      clear h2 h3 h4 h5 h6
      (try clear hr)
      go_enter Tryz.func34, Tryz.ntmps34
      go_wp2_with (first
       | (go_at_call 35; (with_reducible refine Calls.mono HC1.out ?_); rintro e w1 ⟨rfl, ve1, h2, h3⟩; have HP1 := Lib.hid h2; have HS1 := Lib.hid (HS0.out.trans h3); have HG1 := Lib.hid (mkeep (HT0.out.trans h3) HP0.out HG0.out (by decide) (by decide)); have HT1 := Lib.hid (HT0.out.trans h3); clear bx; have bx := cell_of_row _ _ 0 _ _ _ HG1.out; have HC2 := Lib.hid (words_new HP1.out [⟨#[112, 114, 111, 103, 114, 97, 109]⟩] 1 [.string ⟨#[112, 114, 111, 103, 114, 97, 109]⟩] rfl rfl (by decide) (by decide) HX2.out); clear h2 h3)
       | (go_at_call 36; (with_reducible refine Calls.mono HC2.out ?_); rintro e w2 ⟨rfl, ve2, h2, h3⟩; have HP2 := Lib.hid h2; have HS2 := Lib.hid (HS1.out.trans h3); have HG2 := Lib.hid (mkeep (HT1.out.trans h3) HP0.out HG0.out (by decide) (by decide)); have HT2 := Lib.hid (HT1.out.trans h3); clear bx; have bx := cell_of_row _ _ 0 _ _ _ HG2.out; have HC3 := Lib.hid (name_any l n n (Nat.le_refl n) W0 A c w2 p i2 d2 out2 ve2 _ HP2.out HX3.out); clear h2 h3)
       | (go_at_call 37; (with_reducible refine Calls.mono HC3.out ?_); rintro e w3 ⟨rfl, ve3, h2, h3⟩; have HP3 := Lib.hid h2; have HS3 := Lib.hid (HS2.out.trans h3); have HG3 := Lib.hid (mkeep (HT2.out.trans h3) HP0.out HG0.out (by decide) (by decide)); have HT3 := Lib.hid (HT2.out.trans h3); clear bx; have bx := cell_of_row _ _ 0 _ _ _ HG3.out; have HC4 := Lib.hid (words_new HP3.out [⟨#[59]⟩] 1 [.string ⟨#[59]⟩] rfl rfl (by decide) (by decide) HX4.out); clear h2 h3)
       | (go_at_call 36; (with_reducible refine Calls.mono HC4.out ?_); rintro e w4 ⟨rfl, ve4, h2, h3⟩; have HP4 := Lib.hid h2; have HS4 := Lib.hid (HS3.out.trans h3); have HG4 := Lib.hid (mkeep (HT3.out.trans h3) HP0.out HG0.out (by decide) (by decide)); have HT4 := Lib.hid (HT3.out.trans h3); clear bx; have bx := cell_of_row _ _ 0 _ _ _ HG4.out; have HC5 := Lib.hid ((allG l n).block n (Nat.le_refl n) W0 A c w4 p i4 d4 out4 ve4 _ HP4.out HX5.out); clear h2 h3)
       | (go_at_call 38; (with_reducible refine Calls.mono HC5.out ?_); rintro e w5 ⟨rfl, ve5, h2, h3⟩; have HP5 := Lib.hid h2; have HS5 := Lib.hid (HS4.out.trans h3); have HG5 := Lib.hid (mkeep (HT4.out.trans h3) HP0.out HG0.out (by decide) (by decide)); have HT5 := Lib.hid (HT4.out.trans h3); clear bx; have bx := cell_of_row _ _ 0 _ _ _ HG5.out; have HC6 := Lib.hid (words_new HP5.out [⟨#[46]⟩] 1 [.string ⟨#[46]⟩] rfl rfl (by decide) (by decide) HX6.out); clear h2 h3)
       | (go_at_call 36; (with_reducible refine Calls.mono HC6.out ?_); rintro e w6 ⟨rfl, ve6, h2, h3⟩; have HP6 := Lib.hid h2; have HS6 := Lib.hid (HS5.out.trans h3); have HG6 := Lib.hid (mkeep (HT5.out.trans h3) HP0.out HG0.out (by decide) (by decide)); have HT6 := Lib.hid (HT5.out.trans h3); clear bx; have bx := cell_of_row _ _ 0 _ _ _ HG6.out; clear h2 h3))
      obtain ⟨q0, q1, q2, q3⟩ := HP6.out.cell
      by_cases hlt : i6 < l.length
      ·have h1 : (((i6 : Nat) : Int) < ((l.length : Nat) : Int)) := by omega
       have HFA := Lib.hid (fun (w1 : World) (hb : Below w6.heap.size w6 w1) => (show Calls Tryz.prog 39 #[.pointer (some ⟨p, 0, none⟩)] w1 (fun e w' => e = giveUp 120 i6 ∧ Below w1.heap.size w1 w') from (by have h := fail_any (HP6.out.moved hb); rw [if_neg (show ¬ i6 = l.length by omega)] at h; exact h)))
       have HEL := Lib.hid (show endR l (.ok i6 d6 out6) = .err 120 i6 by simp only [endR]; rw [if_pos hlt])
       clear hlt
       go_region
       go_wp2_with (first | (go_at_call 39; (with_reducible refine Calls.mono (HFA.out _ (Below.refl _ _).drew) ?_); rintro e wf ⟨rfl, hbf⟩; have HBF := Lib.hid ((Below.refl w6.heap.size w6).drew.trans (hbf.mono (Below.refl w6.heap.size w6).drew.size)); clear hbf))
       rw [HEL.out]
       exact ⟨rfl, rfl, ve6, HS6.out.trans (PStep.below HBF.out)⟩
      ·have h1 : ¬ (((i6 : Nat) : Int) < ((l.length : Nat) : Int)) := by omega
       have HEL := Lib.hid (show endR l (.ok i6 d6 out6) = .ok i6 d6 out6 by simp only [endR]; rw [if_neg hlt])
       clear hlt
       go_region
       go_wp2
       go_end0
       rw [HEL.out]
       exact ⟨rfl, ve6, HP6.out.moved (by first | exact Below.refl _ _ | exact (Below.refl _ _).drew), HS6.out.trans (PStep.below (by first | exact Below.refl _ _ | exact (Below.refl _ _).drew))⟩
set_option maxRecDepth 100000 in
set_option maxHeartbeats 8000000 in
theorem g_program {W0 : World} {A : Option Addr} {c : Nat} {l : List Tk} {w : World} {p : Nat} {ve : Value} (H : SAt W0 A c l w p 0 0 [] ve) {n : Nat} {r : SRes} (hr : srun l n ⟨[.word ⟨#[112, 114, 111, 103, 114, 97, 109]⟩, .word ⟨#[64, 110, 97, 109, 101]⟩, .word ⟨#[59]⟩, .rule .r_block, .word ⟨#[46]⟩], (nAt l 0).length, 1, evOf (1, 1) :: (nAt l 0).map noteE⟩ = some r) (hf : ∀ i2 d2 out2, r = .ok i2 d2 out2 → fitS ⟨[], i2, d2, out2⟩) :
  Calls Tryz.prog 18 #[.pointer (some ⟨p, 0, none⟩)] w (SPost W0 A c l p ve w (nodeR 1 (endR l r))) := by
 have hf2 : ∀ i2 d2 out2, endR l r = .ok i2 d2 out2 → fitS ⟨[], i2, d2, out2⟩ := by
  intro i2 d2 out2 he
  cases r with
  | err e i => cases he
  | ok i3 d3 out3 =>
   simp only [endR] at he
   split at he
   ·cases he
   ·exact hf _ _ _ he
 obtain ⟨w0, hw0⟩ : ∃ V, w.alloc (.cells #[.pointer (some ⟨p, 0, none⟩)] 54) = V := ⟨_, rfl⟩
 have hb0 : Below w.heap.size w w0 := by rw [← hw0]; exact (Below.refl _ w).alloc (Nat.le_refl _) _
 have hg : w0.heap[w.heap.size]? = some (.cells #[.pointer (some ⟨p, 0, none⟩)] 54 (0, 0)) := by rw [← hw0]; exact World.alloc_heap_new _ _
 have HWB := Lib.hid hw0
 have HP0 := Lib.hid (H.moved hb0)
 have HS0 := Lib.hid (PStep.below hb0 : MStep p ve w ve w0)
 have HT0 := Lib.hid (PStep.refl p (.slice none 0 0) ve w0)
 obtain ⟨g, hge⟩ : ∃ g, w.heap.size = g := ⟨_, rfl⟩
 rw [hge] at hg
 have HGE := Lib.hid hge
 have HG0 := Lib.hid hg
 have bx := cell_of_row _ _ 0 _ _ _ hg
 clear hw0 hb0 hg hge H
 have HCN := Lib.hid (node_gen HP0.out 1 34 (.pointer (some ⟨g, 0, none⟩)) (fun w => enters_ Tryz.func34 (by kernel_rfl) rfl #[(.pointer (some ⟨g, 0, none⟩))] w) (r := endR l r) (fun w1 ve1 h1 h2 => g_program_1 rfl rfl (by simp) h2 (mkeep h1 HP0.out HG0.out (by decide) (by decide)) hr) (by simp [fitS]) hf2)
 clear hr hf hf2
 generalize endR l r = r2 at *
 cases r2 with
 | ok i2 d2 out2 =>
  go_enter Tryz.func18, Tryz.ntmps18
  go_upto_region 1 with (fail)
  rw [HWB.out, HGE.out]
  go_wp2_with (first | (go_at_call 33; (with_reducible refine Calls.mono HCN.out ?_); rintro e w2 ⟨rfl, ve2, h2, h3⟩; have HP2 := Lib.hid h2; have HS2 := Lib.hid (HS0.out.trans h3); clear h2 h3))
  go_end0
  exact ⟨rfl, ve2, HP2.out, HS2.out⟩
 | err er jj =>
  go_enter Tryz.func18, Tryz.ntmps18
  go_upto_region 1 with (fail)
  rw [HWB.out, HGE.out]
  go_wp2_with (first | (go_at_call 33; (with_reducible refine Calls.mono HCN.out ?_); rintro e w2 ⟨rfl, ve2, h3⟩; have HS2 := Lib.hid (HS0.out.trans h3); clear h3))
  exact ⟨rfl, rfl, ve2, HS2.out⟩
end Go.Proofs.YtmjbpgnjgblnmaaGreat
namespace Go.Proofs.YtmjbpgnjgblnmaaGreat
theorem all_skip {p : Par} (hb : p.begun = true) (hc : p.closed = false) (hw : p.wrong = 0) : ∀ (ns r : List Tk), (∀ t ∈ ns, isNote t = true) →
  allP p (ns ++ r) = (ns.map noteE ++ (allP p r).1, (allP p r).2.1, ns.length + (allP p r).2.2)
 | [], r, h => by simp
 | t :: ns, r, h => by
  have hp := put_note_begun hb hc hw (h t List.mem_cons_self)
  rw [List.cons_append, all_cons_ok (by rw [hp])]
  rw [hp]
  dsimp only
  rw [all_skip hb hc hw ns r (fun t ht => h t (List.mem_cons_of_mem _ ht))]
  simp only [List.map_cons, List.cons_append, List.nil_append, List.length_cons]
  congr 2
  omega
theorem nAt_all {l : List Tk} {i : Nat} : ∀ t ∈ nAt l i, isNote t = true := by
 intro t ht
 have : ∀ (q : List Tk), t ∈ q.takeWhile isNote → isNote t = true := by
  intro q
  induction q with
  | nil => intro h; cases h
  | cons a q ih =>
   rw [List.takeWhile_cons]
   intro h
   split at h
   ·rename_i ha
    rcases List.mem_cons.1 h with rfl | h
    ·exact ha
    ·exact ih h
   ·cases h
 exact this _ ht
theorem drop_notes (l : List Tk) (i : Nat) : l.drop i = nAt l i ++ l.drop (i + (nAt l i).length) := by
 unfold nAt
 have h := (List.takeWhile_append_dropWhile (p := isNote) (l := l.drop i)).symm
 have h2 : (l.drop i).dropWhile isNote = l.drop (i + ((l.drop i).takeWhile isNote).length) := by
  have h3 : ∀ q : List Tk, q.dropWhile isNote = q.drop (q.takeWhile isNote).length := by
   intro q
   induction q with
   | nil => rfl
   | cons a q ih =>
    rw [List.dropWhile_cons, List.takeWhile_cons]
    split
    ·rw [List.length_cons, List.drop_succ_cons]; exact ih
    ·rfl
  rw [h3, List.drop_drop]
 rw [h2] at h
 exact h
theorem nAt_behind (l : List Tk) (i : Nat) : nAt l (i + (nAt l i).length) = [] := by
 have h : ∀ q : List Tk, (q.drop (q.takeWhile isNote).length).takeWhile isNote = [] := by
  intro q
  induction q with
  | nil => rfl
  | cons a q ih =>
   rw [List.takeWhile_cons]
   split
   ·rw [List.length_cons, List.drop_succ_cons]; exact ih
   ·rename_i ha
    rw [List.length_nil, List.drop_zero, List.takeWhile_cons, if_neg ha]
 have h2 := h (l.drop i)
 rw [List.drop_drop] at h2
 exact h2
theorem nAt_le {l : List Tk} {i : Nat} (hi : i ≤ l.length) : i + (nAt l i).length ≤ l.length := by
 have h := congrArg List.length (drop_notes l i)
 rw [List.length_append, List.length_drop, List.length_drop] at h
 have h2 : (nAt l i).length ≤ (l.drop i).length := (List.takeWhile_sublist _).length_le
 rw [List.length_drop] at h2
 omega
structure Says (l : List Tk) (out : List Ev) (i : Nat) (q : List Ev × Int × Nat) (r : SRes) : Prop where
 good : q.2.1 = 0 → ∃ evs, q.1 = evs ++ [evOf (3, 1)] ∧ r = .ok l.length 1 (out ++ evs)
 bad : q.2.1 ≠ 0 → endR l r = .err q.2.1 (i + q.2.2)
theorem run_all (l : List Tk) (hl : l.length ≤ 4194304) : ∀ (k i : Nat) (T : List WT) (p : Par) (op : List Nat) (out : List Ev), l.length - i = k → i ≤ l.length → nAt l i = [] → p.todo = T ++ [.fin 1] → LastW T → PInv p op → p.begun = true → out.length ≤ 4000 * (i + 1) → p.todo.length ≤ 77 * (i + 1) →
  ∃ n r, srun l n ⟨T, i, p.depth, out⟩ = some r ∧ Says l out i (allP p (l.drop i)) r := by
 intro k
 induction k using Nat.strongRecOn with
 | ind k ih =>
 intro i T p op out hk hi hn hT hLW hP hb hout htl
 have hd := hP.depth
 have hmost := hP.most
 have hfins := hP.fins
 rw [if_pos hb] at hfins
 by_cases hil : i = l.length
 ·subst hil
  rw [List.drop_length]
  rcases hLW with rfl | ⟨U, x, rfl⟩
  ·have hop : op = [1] := by rw [← hfins, hT]; rfl
   subst hop
   refine ⟨1, .ok l.length p.depth out, srun_res (Room.fit (n := 1) ⟨by omega, by rw [hd]; simp, by rw [hd]; simp⟩) rfl, fun _ => ⟨[], ?_, ?_⟩, fun h => ?_⟩
   ·simp only [allP, closeP, hP.closed, hP.wrong, hT]
    rfl
   ·rw [hd]; simp
   ·exfalso
    apply h
    simp only [allP, closeP, hP.closed, hP.wrong, hT]
    rfl
  ·obtain ⟨⟨b, s⟩, -, -, -, h1, -⟩ := turns_some ⟨#[]⟩ (U ++ [WT.word x]).length ⟨U ++ [WT.word x], [], p.depth⟩ rfl
   have hlen : (U ++ [WT.word x]).length + 1 = p.todo.length := by rw [hT]; simp
   have hr := run_end (l := l) _ U x [] p.depth out b s h1 ⟨by simp only [List.length_nil]; omega, by omega, by omega⟩
   rw [List.map_nil, List.append_nil] at hr
   have hq : allP p [] = ([], 121, 0) := by
    simp only [allP, closeP, hP.closed, hP.wrong, hT]
    rw [if_neg (by decide), if_neg (by decide), if_pos (by simp)]
   rw [hq]
   exact ⟨_, _, hr, fun h => absurd h (by decide), fun _ => rfl⟩
 ·have hlt : i < l.length := by omega
  obtain ⟨t, ht⟩ : ∃ t, l[i]? = some t := ⟨_, List.getElem?_eq_getElem hlt⟩
  have hdr : l.drop i = t :: l.drop (i + 1) := by
   rw [List.drop_eq_getElem_cons hlt]
   have := (List.getElem?_eq_some_iff.1 ht).2
   rw [this]
  have hnt : isNote t = false := by
   unfold nAt at hn
   rw [hdr, List.takeWhile_cons] at hn
   by_cases h : isNote t = true
   ·rw [if_pos h] at hn; cases hn
   ·simpa using h
  rw [hdr]
  have hpre : preD p = p.depth := by unfold preD; rw [if_pos hb]
  have hpreE : preE p = [] := by unfold preE; rw [if_pos hb]
  have hput : put p t = if (token t p.todo p.depth).1 ≠ 0 then ([], (token t p.todo p.depth).1, { p with todo := (token t p.todo p.depth).2.todo, wrong := (token t p.todo p.depth).1 }) else ((token t p.todo p.depth).2.evs.map evOf ++ [leafE t], 0, { p with todo := (token t p.todo p.depth).2.todo, depth := (token t p.todo p.depth).2.depth, begun := true }) := by
   unfold put
   simp only [hP.closed, Bool.false_eq_true, if_false, hP.wrong, ne_eq, not_true_eq_false, hnt, hpre, hpreE, List.nil_append]
  rcases hLW with rfl | ⟨U, x, rfl⟩
  ·have htk : (token t p.todo p.depth).1 = 120 := by
    rw [hT]
    rfl
   have hpb : (put p t).2.1 = 120 := by rw [hput, if_pos (by rw [htk]; decide)]; exact htk
   rw [all_cons_bad (by rw [hpb]; decide), hpb]
   refine ⟨1, .ok i p.depth out, srun_res (Room.fit (n := 1) ⟨by omega, by omega, by omega⟩) rfl, fun h => absurd h (by decide), fun _ => ?_⟩
   simp only [endR]
   rw [if_pos hlt]
   rfl
  ·have hT2 : p.todo = U ++ [.word x, .fin 1] := by rw [hT, List.append_assoc]; rfl
   obtain ⟨⟨b, s⟩, -, -, -, h1, -⟩ := turns_some (codeOf t) p.todo.length ⟨p.todo, [], p.depth⟩ rfl
   have hrm : Room (p.todo.length + 7) (out.length + ([] : List (Nat × Nat)).length) p.depth := ⟨by simp only [List.length_nil]; omega, by omega, by omega⟩
   have hrw := run_word ht (p.todo.length + 7) U x [] p.depth out b s (by rw [← hT2]; exact h1) hrm
   rw [List.map_nil, List.append_nil, List.length_nil, Nat.zero_add] at hrw
   have htok : token t p.todo p.depth = match (b, s) with
    | (false, s) => (120, s)
    | (true, s) => if s.todo = [] then (120, s) else if 1000 < s.depth then (122, s) else (0, s) := by
    unfold token
    rw [h1]
    cases b <;> rfl
   rcases hrw with ⟨rfl, hr⟩ | ⟨rfl, T', g1, g2, g3, g4, g5, g6⟩
   ·have hpb : (put p t).2.1 = 120 := by rw [hput, if_pos (by rw [htok]; exact (by decide : (120 : Int) ≠ 0))]; rw [htok]
    rw [all_cons_bad (by rw [hpb]; decide), hpb]
    exact ⟨_, _, hr, fun h => absurd h (by decide), fun _ => rfl⟩
   ·have hne : ¬ s.todo = [] := by rw [g1]; simp
    have hfw : ∀ T, fitS ⟨T, i, s.depth, out ++ s.evs.map evOf⟩ := fun T => by
     refine ⟨?_, ?_, ?_⟩
     ·dsimp only; rw [evlen]; omega
     ·dsimp only; omega
     ·dsimp only; omega
    by_cases hdp : 1000 < s.depth
    ·have htk : (token t p.todo p.depth).1 = 122 := by rw [htok]; simp only; rw [if_neg hne, if_pos hdp]
     have hpb : (put p t).2.1 = 122 := by rw [hput, if_pos (by rw [htk]; decide)]; exact htk
     rw [all_cons_bad (by rw [hpb]; decide), hpb]
     refine ⟨_, _, g6 1 (.err 122 i) (srun_res (hfw _) ?_), fun h => absurd h (by decide), fun _ => rfl⟩
     simp only [sstep, ht, if_true]
     rw [if_pos hdp]
    ·have htk : token t p.todo p.depth = (0, s) := by rw [htok]; simp only; rw [if_neg hne, if_neg hdp]
     have hput2 : put p t = (s.evs.map evOf ++ [leafE t], 0, { p with todo := s.todo, depth := s.depth, begun := true }) := by rw [hput, htk]; rfl
     obtain ⟨op', hP', hb', -, -⟩ := put_nest hP t [] (by rw [hput2])
     have hpl := put_len p t
     have hev : s.evs.length ≤ 2000 := by
      obtain ⟨cl, op2, X, a1, a2, -, a4, a5, -⟩ := token_law t p.todo p.depth
      rw [htk] at a1 a2 a5
      have h9 := (a5 rfl).2
      have h8 := congrArg List.length a1
      have h7 := congrArg List.length a4
      rw [hfins] at h7
      simp only [List.length_append, List.length_map] at h8 h7
      dsimp only at a2 h9
      omega
     rw [hput2] at hP' hb' hpl
     dsimp only at hP' hb' hpl
     have hle := nAt_le (l := l) (i := i + 1) (by omega)
     have hdn := drop_notes l (i + 1)
     rw [all_cons_ok (by rw [hput2]), hput2, hdn]
     dsimp only
     rw [all_skip (p := { p with todo := s.todo, depth := s.depth, begun := true }) rfl hP'.closed hP'.wrong _ _ nAt_all]
     obtain ⟨n, r, hr, hS⟩ := ih (l.length - (i + 1 + (nAt l (i + 1)).length)) (by omega) (i + 1 + (nAt l (i + 1)).length) T' { p with todo := s.todo, depth := s.depth, begun := true } op' (out ++ s.evs.map evOf ++ [leafE t] ++ (nAt l (i + 1)).map noteE) rfl hle (nAt_behind l (i + 1)) g1 g2 hP' rfl (by simp only [List.length_append, List.length_map, List.length_singleton]; omega) (by dsimp only; omega)
     dsimp only at hr
     refine ⟨_, r, g6 (n + 1) r ?_, fun h0 => ?_, fun h0 => ?_⟩
     ·rw [srun_step (hfw _) (s' := ⟨T', i + 1 + (nAt l (i + 1)).length, s.depth, out ++ s.evs.map evOf ++ [leafE t] ++ (nAt l (i + 1)).map noteE⟩)]
      ·exact hr
      ·simp only [sstep, ht, if_true]
       rw [if_neg hdp]
     ·obtain ⟨evs, e1, e2⟩ := hS.good h0
      refine ⟨s.evs.map evOf ++ [leafE t] ++ (nAt l (i + 1)).map noteE ++ evs, ?_, ?_⟩
      ·dsimp only
       rw [e1]
       simp only [List.append_assoc]
      ·rw [e2]
       simp only [List.append_assoc]
     ·have := hS.bad h0
      rw [this]
      dsimp only
      congr 1
      omega
end Go.Proofs.YtmjbpgnjgblnmaaGreat
namespace Go.Proofs.YtmjbpgnjgblnmaaGreat
abbrev progT : List WT := [.word ⟨#[112, 114, 111, 103, 114, 97, 109]⟩, .word ⟨#[64, 110, 97, 109, 101]⟩, .word ⟨#[59]⟩, .rule .r_block, .word ⟨#[46]⟩]
theorem start_all (l : List Tk) : (allP newPar l).2.1 = (allP notedPar (l.drop (nAt l 0).length)).2.1 ∧ (allP newPar l).2.2 = (nAt l 0).length + (allP notedPar (l.drop (nAt l 0).length)).2.2 ∧
  ((allP newPar l).2.1 = 0 → (allP newPar l).1 = evOf (1, 1) :: ((nAt l 0).map noteE ++ (allP notedPar (l.drop (nAt l 0).length)).1)) := by
 have hd := drop_notes l 0
 rw [List.drop_zero, Nat.zero_add] at hd
 have hall := nAt_all (l := l) (i := 0)
 generalize hns : nAt l 0 = ns at *
 cases ns with
 | nil =>
  rw [List.length_nil, List.drop_zero, List.map_nil, List.nil_append, Nat.zero_add]
  cases l with
  | nil => exact ⟨rfl, rfl, fun h => absurd h (by decide)⟩
  | cons t r =>
   have hn : isNote t = false := by
    unfold nAt at hns
    rw [List.drop_zero, List.takeWhile_cons] at hns
    by_cases h : isNote t = true
    ·rw [if_pos h] at hns; cases hns
    ·simpa using h
   obtain ⟨h1, h2⟩ := put_cmp hn
   by_cases he : (put newPar t).2.1 = 0
   ·obtain ⟨h3, h4⟩ := h2 he
    rw [all_cons_ok he, all_cons_ok (by rw [h1]; exact he), h3, h4]
    exact ⟨rfl, rfl, fun _ => rfl⟩
   ·rw [all_cons_bad he, all_cons_bad (by rw [h1]; exact he), h1]
    exact ⟨rfl, rfl, fun h => absurd h he⟩
 | cons t ns =>
  have hp : put newPar t = ([evOf (1, 1), noteE t], 0, notedPar) := put_note rfl rfl (hall t List.mem_cons_self)
  have hk := all_skip (p := notedPar) rfl rfl rfl ns (l.drop (t :: ns).length) (fun x hx => hall x (List.mem_cons_of_mem _ hx))
  have ha : allP newPar l = allP newPar (t :: (ns ++ l.drop (t :: ns).length)) := by
   conv => lhs; rw [hd]
   rfl
  rw [ha, all_cons_ok (by rw [hp]), hp]
  dsimp only
  rw [hk]
  refine ⟨rfl, ?_, fun _ => rfl⟩
  dsimp only
  rw [List.length_cons]
  omega
def progR (l : List Tk) : SRes := if (allP newPar l).2.1 = 0 then .ok l.length 0 (allP newPar l).1 else .err (allP newPar l).2.1 (allP newPar l).2.2
theorem prog_run (l : List Tk) (hl : l.length ≤ 4194304) : ∃ n r, srun l n ⟨progT, (nAt l 0).length, 1, evOf (1, 1) :: (nAt l 0).map noteE⟩ = some r ∧ nodeR 1 (endR l r) = progR l := by
 have hle := nAt_le (l := l) (i := 0) (Nat.zero_le _)
 have hbh := nAt_behind l 0
 rw [Nat.zero_add] at hle hbh
 obtain ⟨h1, h2, h3⟩ := start_all l
 obtain ⟨n, r, hr, hS⟩ := run_all l hl _ (nAt l 0).length progT notedPar [1] (evOf (1, 1) :: (nAt l 0).map noteE) rfl hle hbh rfl (.inr ⟨progT.dropLast, ⟨#[46]⟩, rfl⟩) noted_inv rfl (by simp only [List.length_cons, List.length_map]; omega) (by simp only [notedPar, newPar, List.length_cons, List.length_nil]; omega)
 refine ⟨n, r, hr, ?_⟩
 unfold progR
 by_cases he : (allP newPar l).2.1 = 0
 ·obtain ⟨evs, e1, e2⟩ := hS.good (by rw [← h1]; exact he)
  rw [if_pos he, e2, h3 he, e1]
  simp only [endR, Nat.lt_irrefl, if_false, nodeR, List.cons_append, List.append_assoc]
  rfl
 ·have := hS.bad (by rw [← h1]; exact he)
  rw [if_neg he, this, h1, h2]
  rfl
theorem prog_len {l : List Tk} {n : Nat} {s : SSt} {r : SRes} (h : srun l n s = some r) : ∀ i2 d2 out2, r = .ok i2 d2 out2 → fitS ⟨[], i2, d2, out2⟩ := fun i2 d2 out2 he => srun_ok_fit n s i2 d2 out2 (by rw [← he]; exact h)
theorem prog_evs {l : List Tk} (hl : l.length ≤ 4194304) (he : (allP newPar l).2.1 = 0) : (allP newPar l).1.length ≤ 274877906945 := by
 obtain ⟨n, r, hr, hq⟩ := prog_run l hl
 unfold progR at hq
 rw [if_pos he] at hq
 cases r with
 | err e j => simp only [endR, nodeR] at hq; cases hq
 | ok i d out =>
  have hf := prog_len hr i d out rfl
  simp only [endR] at hq
  split at hq
  ·simp only [nodeR] at hq; cases hq
  ·simp only [nodeR, SRes.ok.injEq] at hq
   rw [← hq.2.2, List.length_append, List.length_singleton]
   have := hf.1
   dsimp only at this
   omega
end Go.Proofs.YtmjbpgnjgblnmaaGreat
