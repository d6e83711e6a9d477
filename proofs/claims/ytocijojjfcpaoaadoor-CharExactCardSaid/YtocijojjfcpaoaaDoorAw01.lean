/- Layer 1's examples: what awake answers. -/
import Derived.Test.YtocijojjfcpaoaaDoorC
import Derived.BigQuiet
set_option linter.unusedVariables false
set_option linter.unusedSimpArgs false
namespace Go.Proofs.YtocijojjfcpaoaaDoor
open Go.RowKit Go.Proofs.YtocijojjfcpaoaaDoorW.PrintWords Go.Proofs.YtocijojjfcpaoaaDoorW.PrintMore

set_option maxRecDepth 100000 in
set_option maxHeartbeats 1000000 in
/-- sameInts of a list and itself. -/
theorem same_calls (A0 : Option Addr) (c0 : Nat) (A1 : Option Addr) (c1 : Nat) (l : List Int) (w : World) (hr0 : CI w A0 l) (hc0 : l.length ≤ c0) (hr1 : CI w A1 l) (hc1 : l.length ≤ c1) (hl : l.length ≤ 9223372036854775806) :
    Calls Tryd.prog 28 #[.slice A0 l.length c0, .slice A1 l.length c1] w fun e w' => e = .returned (.bool true) ∧ Below w.heap.size w w' := by
  have HR0 := Aside0.mk hr0
  have HR1 := Aside0.mk hr1
  have HC0 := Aside0.mk hc0
  have HC1 := Aside0.mk hc1
  clear hr0 hr1 hc0 hc1
  go_enter Tryd.func28, Tryd.ntmps28
  go_wp2
  try (go_quiet (fail))
  try go_wp2
  go_loopw [5] (fun v wr => ∃ i : Nat, i ≤ l.length ∧ v = .int .i64 i ∧ Drawn0 w wr) (fun v _ => l.length - (intOf v).toNat)
  case atStart => exact ⟨0, by omega, rfl, by repeat (first | exact Drawn0.refl _ | apply Drawn0.step)⟩
  case round =>
    obtain ⟨i, hi, rfl, ⟨m, rfl⟩⟩ := hrel
    by_cases hlt : i < l.length
    · have hx0 := HR0.out
      have hx1 := HR1.out
      obtain ⟨a0, e0, hy0⟩ := Kd.at_int HR0.out (i : Int) (by omega) (by omega)
      cases e0
      obtain ⟨a1, e1, hy1⟩ := Kd.at_int HR1.out (i : Int) (by omega) (by omega)
      cases e1
      rw [Int.toNat_natCast] at hy0 hy1
      have hlt1 : decide ((i : Int) < (l.length : Int)) = true := decide_eq_true (by omega)
      have hq : (rd l (i : Int) != rd l (i : Int)) = false := by simp
      go_wp2
      repeat (go_quiet (fail); try go_wp2)
      go_roundw
      case rel => exact ⟨i + 1, by omega, by go_num, by repeat (first | exact Drawn0.refl _ | apply Drawn0.step)⟩
      case measure => simp [intOf]; omega
    · have hlt1 : decide ((i : Int) < (l.length : Int)) = false := decide_eq_false (by omega)
      go_wp2
      go_ret
      exact ⟨rfl, below_drewNv (Below.refl _ _) _⟩

theorem nxA : Pl.next ⟨#[195, 169]⟩ 0 = (233, 2, true) := by decide +kernel
theorem nxB : Pl.next ⟨#[195, 169]⟩ 1 = (65533, 1, false) := by decide +kernel
theorem ptA : Pl.pts (Pl.runes ⟨#[97, 226, 130, 240, 159, 152, 128]⟩ 0) = [97, 65533, 65533, 128512] := by decide +kernel
theorem txA : Pl.textOf [97, 55296] = [97, 239, 191, 189] := by decide +kernel
theorem whA : Pl.whole ⟨#[97, 195]⟩ = 1 := by decide +kernel
theorem whB : Pl.whole ⟨#[97, 128]⟩ = 2 := by decide +kernel

set_option maxRecDepth 100000 in
set_option maxHeartbeats 1000000 in
theorem awake01 (w : World) (hu : Lib.Utf8Tabs 4 5 w) : Calls Tryd.prog 29 #[] w fun e w' => e = .returned (.bool true) ∧ Below w.heap.size w w' := by
  have h6 : 6 ≤ w.heap.size := World.block_lt_of_cell? w _ (hu.2 0 (by decide)).1
  have HU := Lib.hid hu
  clear hu
  have N1 := next_any ⟨#[195, 169]⟩ 0 w (by decide)
  rw [nxA] at N1
  have N1' := Lib.hid N1
  have N2 : Hid (∀ w, _) := fun w => next_any ⟨#[195, 169]⟩ 1 w (by decide)
  rw [nxB] at N2
  have P1 : Hid (∀ w, _) := fun w => points_row ⟨#[97, 226, 130, 240, 159, 152, 128]⟩ w (by decide)
  rw [ptA] at P1
  clear N1
  go_enter Tryd.func29, Tryd.ntmps29
  go_wp2_with (go_at_call 26; with_reducible refine N1'.out.mono ?_; rintro e w1 ⟨rfl, hb⟩; have HB1 := Aside0.mk hb; clear hb)
  go_wp2_with (go_at_call 26; with_reducible refine (N2.out _).mono ?_; rintro e w2 ⟨rfl, hb⟩; have HB2 := Aside0.mk (HB1.out.trans (hb.mono HB1.out.size)); clear hb)
  go_wp2_with (go_at_call 27; with_reducible refine (P1.out _).mono ?_; rintro e w3 ⟨A3, c3, rfl, hc3, hC3, hb⟩; have HB3 := Aside0.mk (HB2.out.trans (hb.mono HB2.out.size)); have HC3 := Aside0.mk hC3; have Hc3 := Aside0.mk hc3; clear hb hC3 hc3)
  go_wp2_with (go_at_call 28; (refine (same_calls A3 c3 (some ⟨w3.heap.size, 0, none⟩) 4 [97, 65533, 65533, 128512] _ ?h0 Hc3.out ?h1 (by decide) (by decide)).mono ?_; (case h0 => exact Kd.C_below HC3.out ((Below.refl _ _).alloc (Nat.le_refl _) _)); (case h1 => exact C_ints (l := [97, 65533, 65533, 128512]) (heap_alloc_new _ _) (by decide)); rintro e w4 ⟨rfl, hb⟩; have HB4 := Aside0.mk ((HB3.out.alloc HB3.out.size _).trans (hb.mono (HB3.out.alloc HB3.out.size _).size)); clear hb))
  go_wp2_with (go_at_call 46; (refine (text_any (some ⟨w4.heap.size, 0, none⟩) 2 [97, 55296] _ ?h2 (by decide) (by decide)).mono ?_; (case h2 => exact C_ints (l := [97, 55296]) (heap_alloc_new _ _) (by decide)); rw [txA]; rintro e w5 ⟨rfl, hb⟩; have HB5 := Aside0.mk ((HB4.out.alloc HB4.out.size _).trans (hb.mono (HB4.out.alloc HB4.out.size _).size)); have HU5 := Lib.hid (utf8_below' HU.out HB5.out h6); have h65 := Lib.hid (Nat.le_trans h6 HB5.out.size); clear hb))
  go_wp2_with (go_at_call 25; first | (with_reducible refine (whole_any ⟨#[97, 195]⟩ _ (by decide) HU5.out h65.out).mono ?_; rw [whA]; rintro e w6 ⟨rfl, hb⟩; have HB6 := Aside0.mk (HB5.out.trans (hb.mono HB5.out.size)); have HU6 := Lib.hid (utf8_below' HU.out HB6.out h6); have h66 := Lib.hid (Nat.le_trans h6 HB6.out.size); clear hb) | (with_reducible refine (whole_any ⟨#[97, 128]⟩ _ (by decide) HU6.out h66.out).mono ?_; rw [whB]; rintro e w7 ⟨rfl, hb⟩; have HB7 := Aside0.mk (HB6.out.trans (hb.mono HB6.out.size)); clear hb))
  go_ret
  exact ⟨rfl, HB7.out⟩
end Go.Proofs.YtocijojjfcpaoaaDoor
