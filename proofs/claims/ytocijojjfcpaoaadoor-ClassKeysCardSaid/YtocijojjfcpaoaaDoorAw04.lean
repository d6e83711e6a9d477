/- Layer 4's examples: what awake answers (without the printed reference). -/
import Derived.Test.YtocijojjfcpaoaaDoorName
import Derived.Test.YtocijojjfcpaoaaDoorSign
set_option linter.unusedVariables false
set_option linter.unusedSimpArgs false
namespace Go.Proofs.YtocijojjfcpaoaaDoor
open Go.RowKit

abbrev UTab4 (w : World) : Prop := Lib.Utf8Tabs 4 5 w
theorem utab4_size {w : World} (h : UTab4 w) : 6 ≤ w.heap.size := World.block_lt_of_cell? w _ (h.2 0 (by decide)).1

theorem nameA' : Pl.isName ⟨#[97, 49, 95]⟩ = true := by decide +kernel
theorem nameE' : Pl.isName ⟨#[101, 110, 100]⟩ = false := by decide +kernel
theorem keyE' : Pl.isKey ⟨#[101, 110, 100]⟩ = true := by decide +kernel
theorem let97' : Pl.isLetter 97 = true := by decide +kernel
theorem let95' : Pl.isLetter 95 = false := by decide +kernel
theorem part769' : Pl.isPart 769 = true := by decide +kernel
theorem signA' : Pl.sign ⟨#[97, 58, 61, 98]⟩ 1 = ⟨#[58, 61]⟩ := by decide +kernel
theorem signB' : Pl.sign ⟨#[97]⟩ 0 = ⟨#[]⟩ := by decide +kernel

set_option maxRecDepth 100000 in
set_option maxHeartbeats 1000000 in
theorem awake04' (w : World) (hc : CTabs w) (hu : UTab4 w) : Calls Tryd.prog 35 #[] w fun e w' => e = .returned (.bool true) ∧ Below w.heap.size w w' := by
  have h6 := utab4_size hu
  have h4 : 4 ≤ w.heap.size := by omega
  have HC := Lib.hid hc
  have HU := Lib.hid hu
  clear hc hu
  go_enter Tryd.func35, Tryd.ntmps35
  go_wp2_with (go_at_call 36; refine (letter_any _ _ HC.out).mono ?_; rw [let97']; rintro e w1 ⟨rfl, hb⟩; have HB1 := Lib.hid hb; have HC1 := Lib.hid (HC.out.below HB1.out h4); clear hb)
  go_wp2_with (go_at_call 36; refine (letter_any _ _ HC1.out).mono ?_; rw [let95']; rintro e w2 ⟨rfl, hb⟩; have HB2 := Lib.hid (HB1.out.trans (hb.mono HB1.out.size)); have HC2 := Lib.hid (HC.out.below HB2.out h4); have h42 := Lib.hid (Nat.le_trans h4 HB2.out.size); clear hb)
  go_wp2_with (go_at_call 38; refine (part_any _ _ HC2.out h42.out).mono ?_; rw [part769']; rintro e w3 ⟨rfl, hb⟩; have HB3 := Lib.hid (HB2.out.trans (hb.mono HB2.out.size)); have HC3 := Lib.hid (HC.out.below HB3.out h4); have HU3 := Lib.hid (utf8_below HU.out HB3.out h6); have h43 := Lib.hid (Nat.le_trans h4 HB3.out.size); clear hb)
  go_wp2_with (go_at_call 34; refine (isName_any _ _ (by decide) HU3.out HC3.out h43.out).mono ?_; rw [nameA']; rintro e w4 ⟨rfl, hb⟩; have HB4 := Lib.hid (HB3.out.trans (hb.mono HB3.out.size)); have HC4 := Lib.hid (HC.out.below HB4.out h4); have HU4 := Lib.hid (utf8_below HU.out HB4.out h6); have h44 := Lib.hid (Nat.le_trans h4 HB4.out.size); clear hb)
  go_wp2_with (go_at_call 34; refine (isName_any _ _ (by decide) HU4.out HC4.out h44.out).mono ?_; rw [nameE']; rintro e w5 ⟨rfl, hb⟩; have HB5 := Lib.hid (HB4.out.trans (hb.mono HB4.out.size)); clear hb)
  go_wp2_with (go_at_call 33; refine (isKey_any _ _).mono ?_; rw [keyE']; rintro e w6 ⟨rfl, hb⟩; have HB6 := Lib.hid (HB5.out.trans (hb.mono HB5.out.size)); clear hb)
  go_wp2_with (go_at_call 42; refine (sign_any _ _ _ (by decide)).mono ?_; rw [signA']; rintro e w7 ⟨rfl, hb⟩; have HB7 := Lib.hid (HB6.out.trans (hb.mono HB6.out.size)); clear hb)
  go_wp2_with (go_at_call 42; refine (sign_any _ _ _ (by decide)).mono ?_; rw [signB']; rintro e w8 ⟨rfl, hb⟩; have HB8 := Lib.hid (HB7.out.trans (hb.mono HB7.out.size)); clear hb)
  go_ret
  exact ⟨rfl, HB8.out⟩

end Go.Proofs.YtocijojjfcpaoaaDoor
