/- The walk of CharJoined. -/
import Derived.Test.YtocijojjfcpaoaaDoorJoin
import Derived.Test.YtocijojjfcpaoaaDoorAw01
set_option linter.unusedVariables false
set_option linter.unusedSimpArgs false
namespace Go.Proofs.YtocijojjfcpaoaaDoor
open Go.RowKit Go.Proofs.YtocijojjfcpaoaaDoorW.PrintWords Go.Proofs.YtocijojjfcpaoaaDoorW.PrintMore

theorem pts_le (s : ByteArray) : (Pl.pts (Pl.runes s 0)).length ≤ s.size := by
  rw [len_pts]; exact Pl.runes_length s s.size 0 (by omega)

theorem same_calls_n (A0 : Option Addr) (c0 : Nat) (A1 : Option Addr) (c1 n : Nat) (l : List Int) (w : World) (hn : l.length = n) (hr0 : CI w A0 l) (hc0 : n ≤ c0) (hr1 : CI w A1 l) (hc1 : n ≤ c1) (hl : n ≤ 9223372036854775806) :
    Calls Tryd.prog 28 #[.slice A0 n c0, .slice A1 n c1] w fun e w' => e = .returned (.bool true) ∧ Below w.heap.size w w' := by
  subst hn
  exact same_calls A0 c0 A1 c1 l w hr0 hc0 hr1 hc1 hl
theorem C_front {w : World} {A : Option Addr} {X R : List Int} (h : CI w A (X ++ R)) : CI w A X := by
  have := Kd.C_take (m := X.length) h (by rw [List.length_append]; omega)
  rwa [List.take_left] at this
theorem C_back {w : World} {A : Option Addr} {X R : List Int} {c : Nat} (h : CI w A (X ++ R)) (hc : (X ++ R).length ≤ c) : CI w (if c = X.length then A else A.map (·.add X.length)) R := by
  have := Kd.C_drop (m := X.length) h (by rw [List.length_append]; omega) hc
  rw [List.drop_left, show X.length * (Kd.int .i64).sz = X.length from Nat.mul_one _] at this
  exact this

set_option maxRecDepth 100000 in
set_option maxHeartbeats 2000000 in
theorem charJoined_walk (a b : ByteArray) (w : World) (hs : a.size ≤ 140737488351232) (hs2 : b.size ≤ 140737488351232) (hu : Lib.Utf8Tabs 4 5 w) :
    Calls Tryd.prog 7 #[.string a, .string b] w fun e w' => e = .returned (.bool true) ∧ Below w.heap.size w w' := by
  have h6 : 6 ≤ w.heap.size := World.block_lt_of_cell? w _ (hu.2 0 (by decide)).1
  have HU := Lib.hid hu
  clear hu
  by_cases hl : a.size ≤ 268435455
  · by_cases hl2 : b.size ≤ 268435455
    · have hwl := whole_le a
      have hwn := whole_near a
      obtain ⟨X, hX⟩ : ∃ X, Pl.pts (Pl.runes (a.extract 0 (Pl.whole a)) 0) = X := ⟨_, rfl⟩
      obtain ⟨R, hR⟩ : ∃ R, Pl.pts (Pl.runes (a ++ b) (Pl.whole a)) = R := ⟨_, rfl⟩
      have hY := pts_front a b
      rw [hX, hR] at hY
      have hXl : X.length ≤ a.size := by
        rw [← hX]
        have := pts_le (a.extract 0 (Pl.whole a))
        rw [size_cut a _ hwl] at this
        omega
      have hYl : (X ++ R).length ≤ a.size + b.size := by
        rw [← hY, ← ByteArray.size_append]
        exact pts_le _
      obtain ⟨n, hn⟩ : ∃ n, X.length = n := ⟨_, rfl⟩
      obtain ⟨r, hr⟩ : ∃ r, R.length = r := ⟨_, rfl⟩
      have hYn : (X ++ R).length = n + r := by rw [List.length_append, hn, hr]
      have W1 := whole_any a w hs HU.out h6
      have P1 : ∀ w, _ := fun w => points_row (a.extract 0 (Pl.whole a)) w (by rw [size_cut a _ hwl]; omega)
      have P2 : ∀ w, _ := fun w => points_row (a ++ b) w (by rw [ByteArray.size_append]; omega)
      have P3 : ∀ w, _ := fun w => points_row b w (by omega)
      rw [hX, hn] at P1
      rw [hY, hYn] at P2
      have CW := Lib.hid W1
      have C1 := Lib.hid P1
      have C2 := Lib.hid P2
      have C3 := Lib.hid P3
      have hb1 : decide ((Pl.whole a : Int) < 0) = false := decide_eq_false (by omega)
      clear W1 P1 P2 P3
      go_enter Tryd.func7, Tryd.ntmps7
      go_wp2_with (go_at_call 25; with_reducible refine CW.out.mono ?_; rintro e w1 ⟨rfl, hb⟩; have HB1 := Aside0.mk hb; clear hb)
      have HN := Aside0.mk hn
      have HRl := Aside0.mk hr
      have HYn := Aside0.mk hYn
      have hnb : n + r ≤ 536870910 := by omega
      have HW := Aside0.mk (fun h : Pl.whole a = a.size => pts_both a b h)
      have HRX := Aside0.mk hX
      have HRY := Aside0.mk hY
      have HRA := Aside0.mk hn
      clear hn hr hYn hX hR hY hXl hYl
      go_wp2_with (go_at_call 27; first | (with_reducible refine (C1.out _).mono ?_; rintro e w2 ⟨A1, c1, rfl, hc1, hC1, hb⟩; have HB2 := Aside0.mk (HB1.out.trans (hb.mono HB1.out.size)); have HC1 := Aside0.mk hC1; have Hc1 := Aside0.mk hc1; clear hb hC1 hc1) | (with_reducible refine (C2.out _).mono ?_; rintro e w3 ⟨A2, c2, rfl, hc2, hC2, hb⟩; have HB3 := Aside0.mk (HB2.out.trans (hb.mono HB2.out.size)); have HC13 := Aside0.mk (Kd.C_below HC1.out hb); have HC2 := Aside0.mk hC2; have hc2' : n + r ≤ c2 := hc2; have Hc2 := Aside0.mk hc2; clear hb hC2 hc2))
      by_cases hlast : Pl.whole a < a.size
      · go_wp2_with (go_at_call 28; with_reducible refine (same_calls_n A2 c2 A1 c1 n X _ HN.out (C_front HC2.out) (by have := Hc2.out; omega) HC13.out Hc1.out (by omega)).mono ?_; rintro e w4 ⟨rfl, hb⟩; have HB4 := Aside0.mk (HB3.out.trans (hb.mono HB3.out.size)); have HC24 := Aside0.mk (Kd.C_below HC2.out hb); have HU4 := Lib.hid (utf8_below' HU.out HB4.out h6); clear hb)
        go_wp2_with (go_at_call 29; refine (awake01 _ HU4.out).mono ?_; rintro e w5 ⟨rfl, hb⟩; have HB5 := Aside0.mk (HB4.out.trans (hb.mono HB4.out.size)); clear hb)
        go_ret
        exact ⟨rfl, HB5.out⟩
      · have hwe : Pl.whole a = a.size := by omega
        have hRZ : Pl.pts (Pl.runes b 0) = R := by
          have h1 := HW.out hwe
          have h2 := HRX.out
          have h3 : a.extract 0 a.size = a := by
            apply bx_ext
            rw [bx_cut, List.drop_zero, List.take_of_length_le (by rw [Pl.size_list]; omega)]
          rw [hwe, h3] at h2
          rw [h2, HRY.out] at h1
          exact (List.append_cancel_left h1).symm
        have C3' : Hid (∀ w, _) := C3.out
        rw [hRZ, HRl.out] at C3'
        clear hRZ
        by_cases hcn : c2 = n
        · subst hcn
          obtain rfl : r = 0 := by omega
          have hR0 := Aside0.mk (List.eq_nil_of_length_eq_zero HRl.out)
          go_wp2_with (go_at_call 28; with_reducible refine (same_calls_n A2 _ A1 c1 _ X _ HN.out (C_front HC2.out) (by have := Hc2.out; omega) HC13.out Hc1.out (by omega)).mono ?_; rintro e w4 ⟨rfl, hb⟩; have HB4 := Aside0.mk (HB3.out.trans (hb.mono HB3.out.size)); have HC24 := Aside0.mk (Kd.C_below HC2.out hb); have HU4 := Lib.hid (utf8_below' HU.out HB4.out h6); clear hb)
          go_wp2_with (go_at_call 27; (with_reducible refine (C3'.out _).mono ?_; rintro e w5 ⟨A3, c3, rfl, hc3, hC3, hb⟩; have HB5 := Aside0.mk (HB4.out.trans (hb.mono HB4.out.size)); have HC25 := Aside0.mk (Kd.C_below HC24.out hb); have HC3 := Aside0.mk hC3; have Hc3 := Aside0.mk hc3; clear hb hC3 hc3))
          have HBK : Aside0 (CI w5 A2 R) := ⟨by
            have hbk := C_back HC25.out (c := c2) (by rw [HYn.out]; exact Hc2.out)
            rwa [HN.out, if_pos rfl] at hbk⟩
          go_wp2_with (go_at_call 28; with_reducible refine (same_calls_n _ _ A3 c3 0 R _ HRl.out HBK.out (by omega) HC3.out Hc3.out (by omega)).mono ?_; rintro e w6 ⟨rfl, hb⟩; have HB6 := Aside0.mk (HB5.out.trans (hb.mono HB5.out.size)); have HU6 := Lib.hid (utf8_below' HU.out HB6.out h6); clear hb)
          go_wp2_with (go_at_call 29; refine (awake01 _ HU6.out).mono ?_; rintro e w7 ⟨rfl, hb⟩; have HB7 := Aside0.mk (HB6.out.trans (hb.mono HB6.out.size)); clear hb)
          go_ret
          exact ⟨rfl, HB7.out⟩
        · go_wp2_with (go_at_call 28; with_reducible refine (same_calls_n A2 _ A1 c1 _ X _ HN.out (C_front HC2.out) (by have := Hc2.out; omega) HC13.out Hc1.out (by omega)).mono ?_; rintro e w4 ⟨rfl, hb⟩; have HB4 := Aside0.mk (HB3.out.trans (hb.mono HB3.out.size)); have HC24 := Aside0.mk (Kd.C_below HC2.out hb); have HU4 := Lib.hid (utf8_below' HU.out HB4.out h6); clear hb)
          go_wp2_with (go_at_call 27; (with_reducible refine (C3'.out _).mono ?_; rintro e w5 ⟨A3, c3, rfl, hc3, hC3, hb⟩; have HB5 := Aside0.mk (HB4.out.trans (hb.mono HB4.out.size)); have HC25 := Aside0.mk (Kd.C_below HC24.out hb); have HC3 := Aside0.mk hC3; have Hc3 := Aside0.mk hc3; clear hb hC3 hc3))
          have hbk := C_back HC25.out (c := c2) (by rw [HYn.out]; exact Hc2.out)
          rw [HN.out, if_neg hcn] at hbk
          have HBK := Aside0.mk hbk
          clear hbk
          go_wp2_with (go_at_call 28; with_reducible refine (same_calls_n _ (c2 - n) A3 c3 r R _ HRl.out HBK.out (by omega) HC3.out Hc3.out (by omega)).mono ?_; rintro e w6 ⟨rfl, hb⟩; have HB6 := Aside0.mk (HB5.out.trans (hb.mono HB5.out.size)); have HU6 := Lib.hid (utf8_below' HU.out HB6.out h6); clear hb)
          go_wp2_with (go_at_call 29; refine (awake01 _ HU6.out).mono ?_; rintro e w7 ⟨rfl, hb⟩; have HB7 := Aside0.mk (HB6.out.trans (hb.mono HB6.out.size)); clear hb)
          go_ret
          exact ⟨rfl, HB7.out⟩
    · have hl' : (268435455 : Int) < b.size := by omega
      have hl2' : (a.size : Int) ≤ 268435455 := by omega
      go_enter Tryd.func7, Tryd.ntmps7
      go_wp2
      go_ret
      exact ⟨rfl, Below.refl _ _⟩
  · have hl' : (268435455 : Int) < a.size := by omega
    go_enter Tryd.func7, Tryd.ntmps7
    go_wp2
    go_ret
    exact ⟨rfl, Below.refl _ _⟩
end Go.Proofs.YtocijojjfcpaoaaDoor
