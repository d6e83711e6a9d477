/- The walks of layer 2's statements, but for their ends: awake, WidthOf, WidthTable, WidthTexts. -/
import Derived.Test.YtocijojjfcpaoaaDoorCut
import Derived.Test.YtocijojjfcpaoaaDoorRW
set_option linter.unusedVariables false
set_option linter.unusedSimpArgs false
namespace Go.Proofs.YtocijojjfcpaoaaDoor
open Go.RowKit Go.Proofs.YtocijojjfcpaoaaDoorW.PrintWords

theorem WTabs.size' {w : World} (h : WTabs w) : 2 ≤ w.heap.size := by
  obtain ⟨t, fr, e⟩ := h.n
  exact (Array.getElem?_eq_some_iff.1 e).1

theorem cutEx : Pl.cutAt 2 (Pl.runes ⟨#[97, 228, 184, 128, 98]⟩ 0) (⟨#[97, 228, 184, 128, 98]⟩ : ByteArray).size 0 = (1, 1) := by decide +kernel
theorem textEx : Pl.wsum (Pl.pts (Pl.runes ⟨#[97, 255, 255]⟩ 0)) = 3 := by decide +kernel
theorem cutExS : (⟨#[97, 228, 184, 128, 98]⟩ : ByteArray).extract 0 1 = ⟨#[97]⟩ := by decide +kernel
theorem of97 : Pl.widthOf 97 = 1 := by decide +kernel
theorem of19968 : Pl.widthOf 19968 = 2 := by decide +kernel
theorem of769 : Pl.widthOf 769 = 0 := by decide +kernel

set_option maxRecDepth 100000 in
set_option maxHeartbeats 1000000 in
theorem awake02 (w : World) (ht : WTabs w) (h2 : 2 ≤ w.heap.size) : Calls Tryd.prog 20 #[] w fun e w' => e = .returned (.bool true) ∧ Below w.heap.size w w' := by
  have HT := Lib.hid ht
  clear ht
  have c1 := cut_any ⟨#[97, 228, 184, 128, 98]⟩ 2 w (by omega) (by omega) (by decide) HT.out h2
  rw [cutEx, cutExS] at c1
  have C1 := Lib.hid c1
  clear c1
  go_enter Tryd.func20, Tryd.ntmps20
  go_wp2_with (go_at_call 21; refine C1.out.mono ?_; rintro e w1 ⟨rfl, hb⟩; have HB1 := Aside0.mk hb; have HS1 := hb.size; have HT1 := Lib.hid (HT.out.below hb h2); clear hb)
  go_wp2_with (go_at_call 18; refine (of_any _ _ HT1.out).mono ?_; rw [of97]; rintro e w2 ⟨rfl, hb⟩; have HB2 := Aside0.mk (HB1.out.trans (hb.mono HB1.out.size)); have HT2 := Lib.hid (HT.out.below HB2.out h2); clear hb)
  go_wp2_with (go_at_call 18; refine (of_any _ _ HT2.out).mono ?_; rw [of19968]; rintro e w3 ⟨rfl, hb⟩; have HB3 := Aside0.mk (HB2.out.trans (hb.mono HB2.out.size)); have HT3 := Lib.hid (HT.out.below HB3.out h2); clear hb)
  go_wp2_with (go_at_call 18; refine (of_any _ _ HT3.out).mono ?_; rw [of769]; rintro e w4 ⟨rfl, hb⟩; have HB4 := Aside0.mk (HB3.out.trans (hb.mono HB3.out.size)); have HT4 := Lib.hid (HT.out.below HB4.out h2); clear hb)
  have h5 := Lib.hid (Nat.le_trans h2 HB4.out.size)
  go_wp2_with (go_at_call 23; refine (wtext_any _ _ (by decide) HT4.out h5.out).mono ?_; rw [textEx]; rintro e w5 ⟨rfl, hb⟩; have HB5 := Aside0.mk (HB4.out.trans (hb.mono HB4.out.size)); have HT5 := Lib.hid (HT.out.below HB5.out h2); clear hb)
  go_ret
  exact ⟨rfl, HB5.out⟩

set_option maxRecDepth 100000 in
set_option maxHeartbeats 1000000 in
theorem widthOf_walk (p : Int) (w : World) (_h0 : -9223372036854775808 ≤ p) (_h1 : p ≤ 9223372036854775807) (ht : WTabs w) : Calls Tryd.prog 3 #[.int .i64 p] w fun e w' => e = .returned (.bool true) ∧ Below w.heap.size w w' := by
  have h2 := ht.size'
  have HT := Lib.hid ht
  clear ht
  have C2 := Lib.hid (PWidthTexts.of_eq p 20 (by omega))
  have hq : (Pl.widthOf p == Pl.widthOf p) = true := beq_self_eq_true _
  go_enter Tryd.func3, Tryd.ntmps3
  go_wp2_with (go_at_call 18; refine (of_any _ _ HT.out).mono ?_; rintro e w1 ⟨rfl, hb⟩; have HB1 := Aside0.mk hb; have HS1 := hb.size; clear hb)
  go_wp2_with (go_at_call 19; refine (PWidthTexts.colophonref02_Of.calls 20 _ _ _ C2.out).mono ?_; rintro e w2 ⟨rfl, hb⟩; have HB2 := Aside0.mk (HB1.out.trans (hb.mono HB1.out.size)); have HT2 := Lib.hid (HT.out.below HB2.out h2); clear hb)
  have h3 := Lib.hid (Nat.le_trans h2 HB2.out.size)
  go_wp2_with (go_at_call 20; refine (awake02 _ HT2.out h3.out).mono ?_; rintro e w3 ⟨rfl, hb⟩; have HB3 := Aside0.mk (HB2.out.trans (hb.mono HB2.out.size)); clear hb)
  go_ret
  exact ⟨rfl, HB3.out⟩

set_option maxRecDepth 100000 in
set_option maxHeartbeats 1000000 in
theorem widthTable_walk (a : Int) (w : World) (h0 : 0 ≤ a) (h1 : a ≤ 255) (ht : WTabs w) : Calls Tryd.prog 4 #[.int .u8 a] w fun e w' => e = .returned (.bool true) ∧ Below w.heap.size w w' := by
  have h2 := ht.size'
  have HT := Lib.hid ht
  clear ht
  go_enter Tryd.func4, Tryd.ntmps4
  go_wp2
  go_loopw [3] (fun v wr => ∃ p : Int, v = .int .i64 p ∧ -256 ≤ p ∧ p ≤ 1114880 ∧ Aside0 (Below w.heap.size w wr)) (fun v _ => (1114880 - intOf v).toNat)
  case atStart => exact ⟨_, rfl, by omega, by omega, ⟨Below.refl _ _⟩⟩
  case round =>
    obtain ⟨p, rfl, hp0, hp1, HB⟩ := hrel
    have HT0 := Lib.hid (HT.out.below HB.out h2)
    have hs0 := Lib.hid (Nat.le_trans h2 HB.out.size)
    by_cases hlt : p < 1114624
    · have C2 := Lib.hid (PWidthTexts.of_eq p 20 (by omega))
      have hq : (Pl.widthOf p != Pl.widthOf p) = false := by simp
      go_wp2_with (go_at_call 18; refine (of_any _ _ HT0.out).mono ?_; rintro e w1 ⟨rfl, hb⟩; have HB1 := Aside0.mk (HB.out.trans (hb.mono HB.out.size)); clear hb)
      go_wp2_with (go_at_call 19; refine (PWidthTexts.colophonref02_Of.calls 20 _ _ _ C2.out).mono ?_; rintro e w2 ⟨rfl, hb⟩; have HB2 := Aside0.mk (HB1.out.trans (hb.mono HB1.out.size)); clear hb)
      go_roundw
      case rel => exact ⟨p + 256, rfl, by omega, by omega, HB2⟩
      case measure => simp [intOf]; omega
    · go_wp2_with (go_at_call 20; refine (awake02 _ HT0.out hs0.out).mono ?_; rintro e w3 ⟨rfl, hb⟩; have HB3 := Aside0.mk (HB.out.trans (hb.mono HB.out.size)); clear hb)
      go_ret
      exact ⟨rfl, HB3.out⟩

set_option maxRecDepth 100000 in
set_option maxHeartbeats 1000000 in
theorem widthTexts_walk (s : ByteArray) (c : Int) (w : World) (hs : s.size ≤ 140737488351232) (h0 : -9223372036854775808 ≤ c) (h1 : c ≤ 9223372036854775807) (ht : WTabs w) :
    Calls Tryd.prog 5 #[.string s, .int .i64 c] w fun e w' => e = .returned (.bool true) ∧ Below w.heap.size w w' := by
  have h2 := ht.size'
  have HT := Lib.hid ht
  clear ht
  by_cases hl : s.size ≤ 2147483647
  · have R3 := Lib.hid (PWidthTexts.text_eq s (s.size + 30) (by omega) (by omega))
    have hq : (Pl.wsum (Pl.pts (Pl.runes s 0)) == Pl.wsum (Pl.pts (Pl.runes s 0))) = true := beq_self_eq_true _
    obtain ⟨r, q, R2, C2⟩ : ∃ r q, Hid (PWidthTexts.colophonref02_Cut.f (s.size + 30) s c = some (r, q)) ∧ Hid (Calls Tryd.prog 21 #[.string s, .int .i64 c] w fun e w' => e = .returned (.tuple #[.string r, .int .i64 q]) ∧ Below w.heap.size w w') := by
      by_cases hc : c < 0
      · exact ⟨_, _, PWidthTexts.cut_neg s c _ hc, cut_neg s c w hc⟩
      · exact ⟨_, _, PWidthTexts.cut_eq s c _ (by omega) (by omega) h1 (by omega), cut_any s c w (by omega) h1 hs HT.out h2⟩
    have hqs : (r.toList == r.toList) = true := beq_self_eq_true _
    have hqq : (q == q) = true := beq_self_eq_true _
    go_enter Tryd.func5, Tryd.ntmps5
    go_wp2_with (go_at_call 21; refine C2.out.mono ?_; rintro e w1 ⟨rfl, hb⟩; have HB1 := Aside0.mk hb; clear hb)
    go_wp2_with (go_at_call 22; refine (PWidthTexts.colophonref02_Cut.calls _ _ _ _ _ _ R2.out).mono ?_; rintro e w2 ⟨rfl, hb⟩; have HB2 := Aside0.mk (HB1.out.trans (hb.mono HB1.out.size)); have HT2 := Lib.hid (HT.out.below HB2.out h2); have h3 := Lib.hid (Nat.le_trans h2 HB2.out.size); clear hb)
    go_wp2_with (go_at_call 23; refine (wtext_any _ _ hs HT2.out h3.out).mono ?_; rintro e w3 ⟨rfl, hb⟩; have HB3 := Aside0.mk (HB2.out.trans (hb.mono HB2.out.size)); clear hb)
    go_wp2_with (go_at_call 24; refine (PWidthTexts.colophonref02_Text.calls _ _ _ _ R3.out).mono ?_; rintro e w4 ⟨rfl, hb⟩; have HB4 := Aside0.mk (HB3.out.trans (hb.mono HB3.out.size)); have HT4 := Lib.hid (HT.out.below HB4.out h2); have h5 := Lib.hid (Nat.le_trans h2 HB4.out.size); clear hb)
    go_wp2_with (go_at_call 20; refine (awake02 _ HT4.out h5.out).mono ?_; rintro e w5 ⟨rfl, hb⟩; have HB5 := Aside0.mk (HB4.out.trans (hb.mono HB4.out.size)); clear hb)
    go_ret
    exact ⟨rfl, HB5.out⟩
  · have hl' : (2147483647 : Int) < s.size := by omega
    go_enter Tryd.func5, Tryd.ntmps5
    go_wp2
    go_ret
    exact ⟨rfl, Below.refl _ _⟩
end Go.Proofs.YtocijojjfcpaoaaDoor
