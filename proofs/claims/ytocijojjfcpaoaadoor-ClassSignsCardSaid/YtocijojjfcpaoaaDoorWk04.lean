/- The walks of layer 4's statements, but for their ends: awake, ClassPoint, ClassTable, ClassTexts, ClassSigns. -/
import Derived.Test.YtocijojjfcpaoaaDoorRK
set_option linter.unusedVariables false
set_option linter.unusedSimpArgs false
namespace Go.Proofs.YtocijojjfcpaoaaDoor
open Go.RowKit Go.Proofs.YtocijojjfcpaoaaDoorW.PrintWords

abbrev UTabs (w : World) : Prop := Lib.Utf8Tabs 4 5 w
theorem utabs_size {w : World} (h : UTabs w) : 6 ≤ w.heap.size := World.block_lt_of_cell? w _ (h.2 0 (by decide)).1

theorem nameA : Pl.isName ⟨#[97, 49, 95]⟩ = true := by decide +kernel
theorem nameE : Pl.isName ⟨#[101, 110, 100]⟩ = false := by decide +kernel
theorem keyE : Pl.isKey ⟨#[101, 110, 100]⟩ = true := by decide +kernel
theorem let97 : Pl.isLetter 97 = true := by decide +kernel
theorem let95 : Pl.isLetter 95 = false := by decide +kernel
theorem part769 : Pl.isPart 769 = true := by decide +kernel
theorem signA : Pl.sign ⟨#[97, 58, 61, 98]⟩ 1 = ⟨#[58, 61]⟩ := by decide +kernel
theorem signB : Pl.sign ⟨#[97]⟩ 0 = ⟨#[]⟩ := by decide +kernel

set_option maxRecDepth 100000 in
set_option maxHeartbeats 1000000 in
theorem awake04 (w : World) (hc : CTabs w) (hu : UTabs w) : Calls Tryd.prog 35 #[] w fun e w' => e = .returned (.bool true) ∧ Below w.heap.size w w' := by
  have h6 := utabs_size hu
  have h4 : 4 ≤ w.heap.size := by omega
  have HC := Lib.hid hc
  have HU := Lib.hid hu
  clear hc hu
  go_enter Tryd.func35, Tryd.ntmps35
  go_wp2_with (go_at_call 36; refine (letter_any _ _ HC.out).mono ?_; rw [let97]; rintro e w1 ⟨rfl, hb⟩; have HB1 := Aside0.mk hb; have HC1 := Lib.hid (HC.out.below HB1.out h4); clear hb)
  go_wp2_with (go_at_call 36; refine (letter_any _ _ HC1.out).mono ?_; rw [let95]; rintro e w2 ⟨rfl, hb⟩; have HB2 := Aside0.mk (HB1.out.trans (hb.mono HB1.out.size)); have HC2 := Lib.hid (HC.out.below HB2.out h4); have h42 := Lib.hid (Nat.le_trans h4 HB2.out.size); clear hb)
  go_wp2_with (go_at_call 38; refine (part_any _ _ HC2.out h42.out).mono ?_; rw [part769]; rintro e w3 ⟨rfl, hb⟩; have HB3 := Aside0.mk (HB2.out.trans (hb.mono HB2.out.size)); have HC3 := Lib.hid (HC.out.below HB3.out h4); have HU3 := Lib.hid (utf8_below HU.out HB3.out h6); have h43 := Lib.hid (Nat.le_trans h4 HB3.out.size); clear hb)
  go_wp2_with (go_at_call 34; refine (isName_any _ _ (by decide) HU3.out HC3.out h43.out).mono ?_; rw [nameA]; rintro e w4 ⟨rfl, hb⟩; have HB4 := Aside0.mk (HB3.out.trans (hb.mono HB3.out.size)); have HC4 := Lib.hid (HC.out.below HB4.out h4); have HU4 := Lib.hid (utf8_below HU.out HB4.out h6); have h44 := Lib.hid (Nat.le_trans h4 HB4.out.size); clear hb)
  go_wp2_with (go_at_call 34; refine (isName_any _ _ (by decide) HU4.out HC4.out h44.out).mono ?_; rw [nameE]; rintro e w5 ⟨rfl, hb⟩; have HB5 := Aside0.mk (HB4.out.trans (hb.mono HB4.out.size)); clear hb)
  go_wp2_with (go_at_call 33; refine (isKey_any _ _).mono ?_; rw [keyE]; rintro e w6 ⟨rfl, hb⟩; have HB6 := Aside0.mk (HB5.out.trans (hb.mono HB5.out.size)); clear hb)
  go_wp2_with (go_at_call 42; refine (sign_any _ _ _ (by decide)).mono ?_; rw [signA]; rintro e w7 ⟨rfl, hb⟩; have HB7 := Aside0.mk (HB6.out.trans (hb.mono HB6.out.size)); clear hb)
  go_wp2_with (go_at_call 42; refine (sign_any _ _ _ (by decide)).mono ?_; rw [signB]; rintro e w8 ⟨rfl, hb⟩; have HB8 := Aside0.mk (HB7.out.trans (hb.mono HB7.out.size)); clear hb)
  go_ret
  exact ⟨rfl, HB8.out⟩

set_option maxRecDepth 100000 in
set_option maxHeartbeats 1000000 in
theorem classPoint_walk (p : Int) (w : World) (_h0 : -9223372036854775808 ≤ p) (_h1 : p ≤ 9223372036854775807) (ht : CTabs w) (hu : UTabs w) : Calls Tryd.prog 9 #[.int .i64 p] w fun e w' => e = .returned (.bool true) ∧ Below w.heap.size w w' := by
  have h6 := utabs_size hu
  have h4 : 4 ≤ w.heap.size := by omega
  have HC := Lib.hid ht
  have HU := Lib.hid hu
  clear ht hu
  have C1 := Lib.hid (PClassTexts.letter_eq p 20 (by omega))
  have C2 := Lib.hid (PClassTexts.part_eq p 20 (by omega))
  have hq : (Pl.isLetter p == Pl.isLetter p) = true := beq_self_eq_true _
  have hq2 : (Pl.isPart p == Pl.isPart p) = true := beq_self_eq_true _
  go_enter Tryd.func9, Tryd.ntmps9
  go_wp2_with (go_at_call 36; refine (letter_any _ _ HC.out).mono ?_; rintro e w1 ⟨rfl, hb⟩; have HB1 := Aside0.mk hb; clear hb)
  go_wp2_with (go_at_call 37; refine (PClassTexts.colophonref04_Letter.calls 20 _ _ _ C1.out).mono ?_; rintro e w2 ⟨rfl, hb⟩; have HB2 := Aside0.mk (HB1.out.trans (hb.mono HB1.out.size)); have HC2 := Lib.hid (HC.out.below HB2.out h4); have h42 := Lib.hid (Nat.le_trans h4 HB2.out.size); clear hb)
  go_wp2_with (go_at_call 38; refine (part_any _ _ HC2.out h42.out).mono ?_; rintro e w3 ⟨rfl, hb⟩; have HB3 := Aside0.mk (HB2.out.trans (hb.mono HB2.out.size)); clear hb)
  go_wp2_with (go_at_call 39; refine (PClassTexts.colophonref04_Part.calls 20 _ _ _ C2.out).mono ?_; rintro e w4 ⟨rfl, hb⟩; have HB4 := Aside0.mk (HB3.out.trans (hb.mono HB3.out.size)); have HC4 := Lib.hid (HC.out.below HB4.out h4); have HU4 := Lib.hid (utf8_below HU.out HB4.out h6); clear hb)
  go_wp2_with (go_at_call 35; refine (awake04 _ HC4.out HU4.out).mono ?_; rintro e w5 ⟨rfl, hb⟩; have HB5 := Aside0.mk (HB4.out.trans (hb.mono HB4.out.size)); clear hb)
  go_ret
  exact ⟨rfl, HB5.out⟩

theorem letter_wide (p : Int) (h : Pl.isLetter p = true) : ¬ Pl.widthOf p < 1 := by
  unfold Pl.isLetter at h
  unfold Pl.widthOf
  simp only [Pl.inRanges, Pl.letters, Pl.none, List.any_cons, List.any_nil, Bool.or_eq_true, Bool.and_eq_true, decide_eq_true_eq, Bool.or_false] at h ⊢
  repeat' split
  all_goals omega

set_option maxRecDepth 100000 in
set_option maxHeartbeats 1000000 in
theorem classTexts_walk (s : ByteArray) (a : Int) (w : World) (hs : s.size ≤ 140737488351232) (_h0 : -9223372036854775808 ≤ a) (_h1 : a ≤ 9223372036854775807) (ht : CTabs w) (hu : UTabs w) :
    Calls Tryd.prog 10 #[.string s, .int .i64 a] w fun e w' => e = .returned (.bool true) ∧ Below w.heap.size w w' := by
  have h6 := utabs_size hu
  have h4 : 4 ≤ w.heap.size := by omega
  have HC := Lib.hid ht
  have HU := Lib.hid hu
  clear ht hu
  by_cases hl : s.size ≤ 2147483647
  · have C1 := Lib.hid (PClassTexts.isName_eq s (s.size + 50) (by omega) (by omega))
    have C2 := Lib.hid (PClassTexts.isKey_eq s (s.size + 50) (by omega))
    have C3 := Lib.hid (PClassTexts.sign_eq s a (s.size + 50) hs (by omega))
    have hq1 : (Pl.isName s == Pl.isName s) = true := beq_self_eq_true _
    have hq2 : (Pl.isKey s == Pl.isKey s) = true := beq_self_eq_true _
    have hq3 : ((Pl.sign s a).toList == (Pl.sign s a).toList) = true := beq_self_eq_true _
    go_enter Tryd.func10, Tryd.ntmps10
    go_wp2_with (go_at_call 34; refine (isName_any _ _ hs HU.out HC.out h4).mono ?_; rintro e w1 ⟨rfl, hb⟩; have HB1 := Aside0.mk hb; clear hb)
    go_wp2_with (go_at_call 40; refine (PClassTexts.colophonref04_IsName.calls _ _ _ _ C1.out).mono ?_; rintro e w2 ⟨rfl, hb⟩; have HB2 := Aside0.mk (HB1.out.trans (hb.mono HB1.out.size)); clear hb)
    go_wp2_with (go_at_call 33; refine (isKey_any _ _).mono ?_; rintro e w3 ⟨rfl, hb⟩; have HB3 := Aside0.mk (HB2.out.trans (hb.mono HB2.out.size)); clear hb)
    go_wp2_with (go_at_call 41; refine (PClassTexts.colophonref04_IsKey.calls _ _ _ _ C2.out).mono ?_; rintro e w4 ⟨rfl, hb⟩; have HB4 := Aside0.mk (HB3.out.trans (hb.mono HB3.out.size)); clear hb)
    go_wp2_with (go_at_call 42; refine (sign_any _ _ _ hs).mono ?_; rintro e w5 ⟨rfl, hb⟩; have HB5 := Aside0.mk (HB4.out.trans (hb.mono HB4.out.size)); clear hb)
    go_wp2_with (go_at_call 43; refine (PClassTexts.colophonref04_Sign.calls _ _ _ _ _ C3.out).mono ?_; rintro e w6 ⟨rfl, hb⟩; have HB6 := Aside0.mk (HB5.out.trans (hb.mono HB5.out.size)); have HC6 := Lib.hid (HC.out.below HB6.out h4); have HU6 := Lib.hid (utf8_below HU.out HB6.out h6); clear hb)
    go_wp2_with (go_at_call 35; refine (awake04 _ HC6.out HU6.out).mono ?_; rintro e w7 ⟨rfl, hb⟩; have HB7 := Aside0.mk (HB6.out.trans (hb.mono HB6.out.size)); clear hb)
    go_ret
    exact ⟨rfl, HB7.out⟩
  · have hl' : (2147483647 : Int) < s.size := by omega
    go_enter Tryd.func10, Tryd.ntmps10
    go_wp2
    go_ret
    exact ⟨rfl, Below.refl _ _⟩

set_option maxRecDepth 100000 in
set_option maxHeartbeats 1000000 in
theorem classTable_walk (a : Int) (w : World) (h0 : 0 ≤ a) (h1 : a ≤ 255) (hw : WTabs w) (ht : CTabs w) (hu : UTabs w) : Calls Tryd.prog 13 #[.int .u8 a] w fun e w' => e = .returned (.bool true) ∧ Below w.heap.size w w' := by
  have h6 := utabs_size hu
  have h4 : 4 ≤ w.heap.size := by omega
  have h2 : 2 ≤ w.heap.size := by omega
  have HC := Lib.hid ht
  have HU := Lib.hid hu
  have HW := Lib.hid hw
  clear ht hu hw
  go_enter Tryd.func13, Tryd.ntmps13
  go_wp2
  go_loopw [3] (fun v wr => ∃ p : Int, v = .int .i64 p ∧ -256 ≤ p ∧ p ≤ 1114880 ∧ Aside0 (Below w.heap.size w wr)) (fun v _ => (1114880 - intOf v).toNat)
  case atStart => exact ⟨_, rfl, by omega, by omega, ⟨Below.refl _ _⟩⟩
  case round =>
    obtain ⟨p, rfl, hp0, hp1, HB⟩ := hrel
    have HC0 := Lib.hid (HC.out.below HB.out h4)
    have HU0 := Lib.hid (utf8_below HU.out HB.out h6)
    by_cases hlt : p < 1114624
    · have C1 := Lib.hid (PClassTexts.letter_eq p 20 (by omega))
      have C2 := Lib.hid (PClassTexts.part_eq p 20 (by omega))
      by_cases hl : Pl.isLetter p = true
      · have HL := Lib.hid hl
        have HP := Lib.hid (PClassTexts.letter_part hl)
        have hwd := letter_wide p hl
        rw [hl] at C1
        rw [PClassTexts.letter_part hl] at C2
        clear hl
        go_wp2_with (go_at_call 36; refine (letter_any _ _ HC0.out).mono ?_; rw [HL.out]; rintro e w1 ⟨rfl, hb⟩; have HB1 := Aside0.mk (HB.out.trans (hb.mono HB.out.size)); have HC1 := Lib.hid (HC.out.below HB1.out h4); have h41 := Lib.hid (Nat.le_trans h4 HB1.out.size); clear hb)
        go_wp2_with (go_at_call 38; refine (part_any _ _ HC1.out h41.out).mono ?_; rw [HP.out]; rintro e w2 ⟨rfl, hb⟩; have HB2 := Aside0.mk (HB1.out.trans (hb.mono HB1.out.size)); clear hb)
        go_wp2_with (go_at_call 37; refine (PClassTexts.colophonref04_Letter.calls 20 _ _ _ C1.out).mono ?_; rintro e w3 ⟨rfl, hb⟩; have HB3 := Aside0.mk (HB2.out.trans (hb.mono HB2.out.size)); clear hb)
        go_wp2_with (go_at_call 39; refine (PClassTexts.colophonref04_Part.calls 20 _ _ _ C2.out).mono ?_; rintro e w4 ⟨rfl, hb⟩; have HB4 := Aside0.mk (HB3.out.trans (hb.mono HB3.out.size)); have HW4 := Lib.hid (HW.out.below HB4.out h2); clear hb)
        go_wp2_with (go_at_call 18; refine (of_any _ _ HW4.out).mono ?_; rintro e w5 ⟨rfl, hb⟩; have HB5 := Aside0.mk (HB4.out.trans (hb.mono HB4.out.size)); clear hb)
        go_roundw
        case rel => exact ⟨p + 256, rfl, by omega, by omega, HB5⟩
        case measure => simp [intOf]; omega
      · have HL : Hid (Pl.isLetter p = false) := Bool.eq_false_iff.2 hl
        rw [HL.out] at C1
        clear hl
        have hq : (Pl.isPart p != Pl.isPart p) = false := by simp
        go_wp2_with (go_at_call 36; refine (letter_any _ _ HC0.out).mono ?_; rw [HL.out]; rintro e w1 ⟨rfl, hb⟩; have HB1 := Aside0.mk (HB.out.trans (hb.mono HB.out.size)); have HC1 := Lib.hid (HC.out.below HB1.out h4); have h41 := Lib.hid (Nat.le_trans h4 HB1.out.size); clear hb)
        go_wp2_with (go_at_call 38; refine (part_any _ _ HC1.out h41.out).mono ?_; rintro e w2 ⟨rfl, hb⟩; have HB2 := Aside0.mk (HB1.out.trans (hb.mono HB1.out.size)); clear hb)
        go_wp2_with (go_at_call 37; refine (PClassTexts.colophonref04_Letter.calls 20 _ _ _ C1.out).mono ?_; rintro e w3 ⟨rfl, hb⟩; have HB3 := Aside0.mk (HB2.out.trans (hb.mono HB2.out.size)); clear hb)
        go_wp2_with (go_at_call 39; refine (PClassTexts.colophonref04_Part.calls 20 _ _ _ C2.out).mono ?_; rintro e w4 ⟨rfl, hb⟩; have HB4 := Aside0.mk (HB3.out.trans (hb.mono HB3.out.size)); clear hb)
        go_roundw
        case rel => exact ⟨p + 256, rfl, by omega, by omega, HB4⟩
        case measure => simp [intOf]; omega
    · go_wp2_with (go_at_call 35; refine (awake04 _ HC0.out HU0.out).mono ?_; rintro e w3 ⟨rfl, hb⟩; have HB3 := Aside0.mk (HB.out.trans (hb.mono HB.out.size)); clear hb)
      go_ret
      exact ⟨rfl, HB3.out⟩
end Go.Proofs.YtocijojjfcpaoaaDoor
