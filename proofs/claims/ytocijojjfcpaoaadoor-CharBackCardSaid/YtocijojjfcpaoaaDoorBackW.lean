/- The walk of CharBack. -/
import Derived.Test.YtocijojjfcpaoaaDoorBack
import Derived.Test.YtocijojjfcpaoaaDoorAw01
import Derived.Test.YtocijojjfcpaoaaDoorVal
import Derived.Test.YtocijojjfcpaoaaDoorInts
set_option linter.unusedVariables false
set_option linter.unusedSimpArgs false
namespace Go.Proofs.YtocijojjfcpaoaaDoor
open Go.RowKit Go.Proofs.YtocijojjfcpaoaaDoorW.PrintWords Go.Proofs.YtocijojjfcpaoaaDoorW.PrintMore

theorem utext_count (l : List Int) : (Pl.runes (Pl.utext l) 0).length = l.length := by
  have := congrArg List.length (utext_pts l)
  rwa [len_pts, List.length_map] at this
theorem utext_size (l : List Int) : (Pl.utext l).size ≤ 4 * l.length := by
  have h := Pl.textOf_length l
  have e2 : (Pl.utext l).size = (Pl.textOf l).length := by
    show ((Pl.textOf l).toArray).size = _
    simp
  omega
theorem text_row (A : Option Addr) (c n : Nat) (l : List Int) (w : World) (hn : l.length = n) (hr : CI w A l) (hc : n ≤ c) (hl : n ≤ 2147483648) :
    Calls Tryd.prog 46 #[.slice A n c] w fun e w' => e = .returned (.string (Pl.utext l)) ∧ Below w.heap.size w w' := by
  subst hn
  exact text_any A c l w hr hc hl
theorem bytes_eq_iff (a b : ByteArray) : a.toList = b.toList ↔ a = b := by
  rw [ByteArray.toList_eq, ByteArray.toList_eq]
  exact ⟨fun h => bx_ext h, fun h => by rw [h]⟩

set_option maxRecDepth 100000 in
set_option maxHeartbeats 2000000 in
theorem charBack_walk (s : ByteArray) (A : Option Addr) (c : Nat) (l : List Int) (w : World) (hs : s.size ≤ 140737488351232) (hr : CI w A l) (hc : l.length ≤ c) (hll : l.length ≤ 140737488351232) (hu : Lib.Utf8Tabs 4 5 w) :
    Calls Tryd.prog 14 #[.string s, .slice A l.length c] w fun e w' => e = .returned (.bool true) ∧ Below w.heap.size w w' := by
  have h6 : 6 ≤ w.heap.size := World.block_lt_of_cell? w _ (hu.2 0 (by decide)).1
  have HU := Lib.hid hu
  have HR := Aside0.mk hr
  have HC := Aside0.mk hc
  clear hu hr hc
  by_cases hl : s.size ≤ 268435455
  · by_cases hl2 : l.length ≤ 268435455
    · have hlen := Pl.runes_length s s.size 0 (by omega)
      obtain ⟨m, hm⟩ : ∃ m, (Pl.runes s 0).length = m := ⟨_, rfl⟩
      have hQ : (Pl.pts (Pl.runes s 0)).length = m := by rw [len_pts, hm]
      have P1 := points_row s w (by omega)
      rw [hQ] at P1
      have C1 := Lib.hid P1
      obtain ⟨t, ht⟩ : ∃ t, Pl.utext (Pl.pts (Pl.runes s 0)) = t := ⟨_, rfl⟩
      have htz : t.size ≤ 4 * m := by rw [← ht, ← hQ]; exact utext_size _
      have htv : Pl.valid t 0 = true := by rw [← ht]; exact utext_valid _
      have htc : (Pl.runes t 0).length = m := by rw [← ht, utext_count, hQ]
      have hbk := back_iff s
      have hmb : m ≤ 268435455 := by omega
      have hnl := utext_pts l
      have hul := utext_valid l
      have huz := utext_size l
      obtain ⟨u, hu'⟩ : ∃ u, Pl.utext l = u := ⟨_, rfl⟩
      rw [hu'] at hnl hul huz
      have hul2 : (Pl.pts (Pl.runes u 0)).length = l.length := by rw [hnl, List.length_map]
      have C6 : ∀ w, _ := fun w => points_row u w (by omega)
      rw [hnl, List.length_map] at C6
      have CP := Lib.hid C6
      have C7 : ∀ w, _ → _ := fun w h => valid_any u w (by omega) h
      rw [hul] at C7
      have CVU := Lib.hid C7
      have HU' := Aside0.mk hu'
      clear C6 C7 hnl hul huz hul2 hu'
      rw [ht] at hbk
      have C4 : ∀ w, _ := fun w => count_any t w (by omega)
      have C5 : ∀ w, _ := fun w => count_any s w hs
      rw [htc] at C4
      rw [hm] at C5
      have CT := Lib.hid C4
      have CS := Lib.hid C5
      have CV0 : ∀ w, _ → _ := fun w h => valid_any s w hs h
      have CV1 : ∀ w, _ → _ := fun w h => valid_any t w (by omega) h
      rw [htv] at CV1
      have CVT := Lib.hid CV1
      clear P1 C4 C5 CV1
      by_cases hv : Pl.valid s 0 = true
      · have hts : (t == s) = true ∨ True := Or.inr trivial
        have hteq : t.toList = s.toList := by rw [hbk.2 hv]
        rw [hv] at CV0
        have CVS := Lib.hid CV0
        have HT := Aside0.mk ht
        clear hv hbk CV0 hts ht htv htc hm
        go_enter Tryd.func14, Tryd.ntmps14
        go_wp2_with (go_at_call 27; with_reducible refine C1.out.mono ?_; rintro e w1 ⟨A1, c1, rfl, hc1, hC1, hb⟩; have HB1 := Aside0.mk hb; have HC1 := Aside0.mk hC1; have Hc1 := Aside0.mk hc1; clear hb hC1 hc1)
        go_wp2_with (go_at_call 46; with_reducible refine (text_row A1 c1 m _ _ hQ HC1.out Hc1.out (by omega)).mono ?_; rw [HT.out]; rintro e w2 ⟨rfl, hb⟩; have HB2 := Aside0.mk (HB1.out.trans (hb.mono HB1.out.size)); have HU2 := Lib.hid (utf8_below' HU.out HB2.out h6); clear hb)
        go_wp2_with (go_at_call 47; first | (with_reducible refine (CVS.out _ HU2.out).mono ?_; rintro e w3 ⟨rfl, hb⟩; have HB3 := Aside0.mk (HB2.out.trans (hb.mono HB2.out.size)); have HU3 := Lib.hid (utf8_below' HU.out HB3.out h6); clear hb) | (with_reducible refine (CVT.out _ HU3.out).mono ?_; rintro e w4 ⟨rfl, hb⟩; have HB4 := Aside0.mk (HB3.out.trans (hb.mono HB3.out.size)); clear hb))
        go_wp2_with (go_at_call 45; first | (with_reducible refine (CT.out w4).mono ?_; rintro e w5 ⟨rfl, hb⟩; have HB5 := Aside0.mk (HB4.out.trans (hb.mono HB4.out.size)); clear hb) | (with_reducible refine (CS.out w5).mono ?_; rintro e w6 ⟨rfl, hb⟩; have HB6 := Aside0.mk (HB5.out.trans (hb.mono HB5.out.size)); have HR6 := Aside0.mk (Kd.C_below HR.out (HB5.out.trans (hb.mono HB5.out.size))); clear hb))
        go_wp2_with (go_at_call 46; with_reducible refine (text_row A c l.length l _ rfl HR6.out HC.out (by omega)).mono ?_; rw [HU'.out]; rintro e w7 ⟨rfl, hb⟩; have HB7 := Aside0.mk (HB6.out.trans (hb.mono HB6.out.size)); have HR7 := Aside0.mk (Kd.C_below HR6.out hb); have HU7 := Lib.hid (utf8_below' HU.out HB7.out h6); clear hb)
        go_wp2_with (go_at_call 27; with_reducible refine (CP.out _).mono ?_; rintro e w8 ⟨A8, c8, rfl, hc8, hC8, hb⟩; have HB8 := Aside0.mk (HB7.out.trans (hb.mono HB7.out.size)); have HR8 := Aside0.mk (Kd.C_below HR7.out hb); have HC8 := Aside0.mk hC8; have Hc8 := Aside0.mk hc8; have HU8 := Lib.hid (utf8_below' HU.out HB8.out h6); clear hb hC8 hc8)
        go_wp2_with (go_at_call 47; with_reducible refine (CVU.out _ HU8.out).mono ?_; rintro e w9 ⟨rfl, hb⟩; have HB9 := Aside0.mk (HB8.out.trans (hb.mono HB8.out.size)); have HR9 := Aside0.mk (Kd.C_below HR8.out hb); have HC9 := Aside0.mk (Kd.C_below HC8.out hb); clear hb)
        go_loopw [8] (fun v wr => ∃ i : Nat, i ≤ l.length ∧ v = .int .i64 i ∧ Aside0 (Below w.heap.size w wr ∧ Below w9.heap.size w9 wr)) (fun v _ => l.length - (intOf v).toNat)
        case atStart => exact ⟨0, by omega, rfl, ⟨HB9.out, Below.refl _ _⟩⟩
        case round =>
          obtain ⟨i, hi, rfl, HBr⟩ := hrel
          by_cases hlt : i < l.length
          · obtain ⟨a1, e1, hy1⟩ := Kd.at_int HR9.out (i : Int) (by omega) (by omega)
            cases e1
            obtain ⟨a2, e2, hy2⟩ := Kd.at_int HC9.out (i : Int) (by omega) (by rw [List.length_map]; omega)
            cases e2
            have hg : rd l (i : Int) = l[i] := by unfold rd; simp [hlt]
            have hg2 : rd (l.map Pl.norm) (i : Int) = Pl.norm l[i] := by unfold rd; simp [hlt]
            rw [hg, Int.toNat_natCast] at hy1
            rw [hg2, Int.toNat_natCast] at hy2
            obtain ⟨x, hx⟩ : ∃ x, l[i] = x := ⟨_, rfl⟩
            rw [hx] at hy1 hy2
            clear hg hg2 hx
            replace hy1 := pw_cell_below HBr.out.2 hy1
            replace hy2 := pw_cell_below HBr.out.2 hy2
            have hlt1 : decide ((i : Int) < (l.length : Int)) = true := decide_eq_true (by omega)
            by_cases k1 : x < 0
            · have d1 : decide (x < 0) = true := decide_eq_true (by omega)
              have hnx : Pl.norm x = 65533 := by unfold Pl.norm; rw [if_pos (by omega)]
              rw [hnx] at hy2
              clear hnx
              go_wp2
              repeat (go_quiet (fail); try go_wp2)
              go_roundw
              case measure => simp [intOf]; omega
              case rel => exact ⟨i + 1, by omega, by go_num, ⟨⟨by first | exact HBr.out.1 | exact below_drewNv HBr.out.1 _ | exact below_drewNv (below_drewNv HBr.out.1 _) _, by first | exact HBr.out.2 | exact below_drewNv HBr.out.2 _ | exact below_drewNv (below_drewNv HBr.out.2 _) _⟩⟩⟩
            by_cases k2 : 1114111 < x
            · have d1 : decide (x < 0) = false := decide_eq_false (by omega)
              have d2 : decide ((1114111 : Int) < x) = true := decide_eq_true (by omega)
              have hnx : Pl.norm x = 65533 := by unfold Pl.norm; rw [if_pos (by omega)]
              rw [hnx] at hy2
              clear hnx
              go_wp2
              repeat (go_quiet (fail); try go_wp2)
              go_roundw
              case measure => simp [intOf]; omega
              case rel => exact ⟨i + 1, by omega, by go_num, ⟨⟨by first | exact HBr.out.1 | exact below_drewNv HBr.out.1 _ | exact below_drewNv (below_drewNv HBr.out.1 _) _, by first | exact HBr.out.2 | exact below_drewNv HBr.out.2 _ | exact below_drewNv (below_drewNv HBr.out.2 _) _⟩⟩⟩
            by_cases k3 : 55296 ≤ x
            · by_cases k4 : x ≤ 57343
              · have d1 : decide (x < 0) = false := decide_eq_false (by omega)
                have d2 : decide ((1114111 : Int) < x) = false := decide_eq_false (by omega)
                have d3 : decide ((55296 : Int) ≤ x) = true := decide_eq_true (by omega)
                have d4 : decide (x ≤ 57343) = true := decide_eq_true (by omega)
                have hnx : Pl.norm x = 65533 := by unfold Pl.norm; rw [if_pos (by omega)]
                rw [hnx] at hy2
                clear hnx
                go_wp2
                repeat (go_quiet (fail); try go_wp2)
                go_roundw
                case measure => simp [intOf]; omega
                case rel => exact ⟨i + 1, by omega, by go_num, ⟨⟨by first | exact HBr.out.1 | exact below_drewNv HBr.out.1 _ | exact below_drewNv (below_drewNv HBr.out.1 _) _, by first | exact HBr.out.2 | exact below_drewNv HBr.out.2 _ | exact below_drewNv (below_drewNv HBr.out.2 _) _⟩⟩⟩
              · have d1 : decide (x < 0) = false := decide_eq_false (by omega)
                have d2 : decide ((1114111 : Int) < x) = false := decide_eq_false (by omega)
                have d3 : decide ((55296 : Int) ≤ x) = true := decide_eq_true (by omega)
                have d4 : decide (x ≤ 57343) = false := decide_eq_false (by omega)
                have hnx : Pl.norm x = x := by unfold Pl.norm; rw [if_neg (by omega)]
                rw [hnx] at hy2
                have hqx : (x != x) = false := by simp
                clear hnx
                go_wp2
                repeat (go_quiet (fail); try go_wp2)
                go_roundw
                case measure => simp [intOf]; omega
                case rel => exact ⟨i + 1, by omega, by go_num, ⟨⟨by first | exact HBr.out.1 | exact below_drewNv HBr.out.1 _ | exact below_drewNv (below_drewNv HBr.out.1 _) _, by first | exact HBr.out.2 | exact below_drewNv HBr.out.2 _ | exact below_drewNv (below_drewNv HBr.out.2 _) _⟩⟩⟩
            · have d1 : decide (x < 0) = false := decide_eq_false (by omega)
              have d2 : decide ((1114111 : Int) < x) = false := decide_eq_false (by omega)
              have d3 : decide ((55296 : Int) ≤ x) = false := decide_eq_false (by omega)
              have hnx : Pl.norm x = x := by unfold Pl.norm; rw [if_neg (by omega)]
              rw [hnx] at hy2
              have hqx : (x != x) = false := by simp
              clear hnx
              go_wp2
              repeat (go_quiet (fail); try go_wp2)
              go_roundw
              case measure => simp [intOf]; omega
              case rel => exact ⟨i + 1, by omega, by go_num, ⟨⟨by first | exact HBr.out.1 | exact below_drewNv HBr.out.1 _ | exact below_drewNv (below_drewNv HBr.out.1 _) _, by first | exact HBr.out.2 | exact below_drewNv HBr.out.2 _ | exact below_drewNv (below_drewNv HBr.out.2 _) _⟩⟩⟩
          · have hlt1 : decide ((i : Int) < (l.length : Int)) = false := decide_eq_false (by omega)
            have HUr := Lib.hid (utf8_below' HU.out HBr.out.1 h6)
            go_wp2_with (go_at_call 29; refine (awake01 _ HUr.out).mono ?_; rintro e w10 ⟨rfl, hb⟩; have HB10 := Aside0.mk (HBr.out.1.trans (hb.mono HBr.out.1.size)); clear hb)
            go_ret
            exact ⟨rfl, HB10.out⟩
      · have hts : (t == s) = true ∨ True := Or.inr trivial
        have hteq : (t.toList == s.toList) = false := beq_eq_false_iff_ne.2 fun e => hv (hbk.1 ((bytes_eq_iff _ _).1 e))
        rw [Bool.eq_false_iff.2 hv] at CV0
        have CVS := Lib.hid CV0
        have HT := Aside0.mk ht
        clear hv hbk CV0 hts ht htv htc hm
        go_enter Tryd.func14, Tryd.ntmps14
        go_wp2_with (go_at_call 27; with_reducible refine C1.out.mono ?_; rintro e w1 ⟨A1, c1, rfl, hc1, hC1, hb⟩; have HB1 := Aside0.mk hb; have HC1 := Aside0.mk hC1; have Hc1 := Aside0.mk hc1; clear hb hC1 hc1)
        go_wp2_with (go_at_call 46; with_reducible refine (text_row A1 c1 m _ _ hQ HC1.out Hc1.out (by omega)).mono ?_; rw [HT.out]; rintro e w2 ⟨rfl, hb⟩; have HB2 := Aside0.mk (HB1.out.trans (hb.mono HB1.out.size)); have HU2 := Lib.hid (utf8_below' HU.out HB2.out h6); clear hb)
        go_wp2_with (go_at_call 47; first | (with_reducible refine (CVS.out _ HU2.out).mono ?_; rintro e w3 ⟨rfl, hb⟩; have HB3 := Aside0.mk (HB2.out.trans (hb.mono HB2.out.size)); have HU3 := Lib.hid (utf8_below' HU.out HB3.out h6); clear hb) | (with_reducible refine (CVT.out _ HU3.out).mono ?_; rintro e w4 ⟨rfl, hb⟩; have HB4 := Aside0.mk (HB3.out.trans (hb.mono HB3.out.size)); clear hb))
        go_wp2_with (go_at_call 45; first | (with_reducible refine (CT.out w4).mono ?_; rintro e w5 ⟨rfl, hb⟩; have HB5 := Aside0.mk (HB4.out.trans (hb.mono HB4.out.size)); clear hb) | (with_reducible refine (CS.out w5).mono ?_; rintro e w6 ⟨rfl, hb⟩; have HB6 := Aside0.mk (HB5.out.trans (hb.mono HB5.out.size)); have HR6 := Aside0.mk (Kd.C_below HR.out (HB5.out.trans (hb.mono HB5.out.size))); clear hb))
        go_wp2_with (go_at_call 46; with_reducible refine (text_row A c l.length l _ rfl HR6.out HC.out (by omega)).mono ?_; rw [HU'.out]; rintro e w7 ⟨rfl, hb⟩; have HB7 := Aside0.mk (HB6.out.trans (hb.mono HB6.out.size)); have HR7 := Aside0.mk (Kd.C_below HR6.out hb); have HU7 := Lib.hid (utf8_below' HU.out HB7.out h6); clear hb)
        go_wp2_with (go_at_call 27; with_reducible refine (CP.out _).mono ?_; rintro e w8 ⟨A8, c8, rfl, hc8, hC8, hb⟩; have HB8 := Aside0.mk (HB7.out.trans (hb.mono HB7.out.size)); have HR8 := Aside0.mk (Kd.C_below HR7.out hb); have HC8 := Aside0.mk hC8; have Hc8 := Aside0.mk hc8; have HU8 := Lib.hid (utf8_below' HU.out HB8.out h6); clear hb hC8 hc8)
        go_wp2_with (go_at_call 47; with_reducible refine (CVU.out _ HU8.out).mono ?_; rintro e w9 ⟨rfl, hb⟩; have HB9 := Aside0.mk (HB8.out.trans (hb.mono HB8.out.size)); have HR9 := Aside0.mk (Kd.C_below HR8.out hb); have HC9 := Aside0.mk (Kd.C_below HC8.out hb); clear hb)
        go_loopw [8] (fun v wr => ∃ i : Nat, i ≤ l.length ∧ v = .int .i64 i ∧ Aside0 (Below w.heap.size w wr ∧ Below w9.heap.size w9 wr)) (fun v _ => l.length - (intOf v).toNat)
        case atStart => exact ⟨0, by omega, rfl, ⟨HB9.out, Below.refl _ _⟩⟩
        case round =>
          obtain ⟨i, hi, rfl, HBr⟩ := hrel
          by_cases hlt : i < l.length
          · obtain ⟨a1, e1, hy1⟩ := Kd.at_int HR9.out (i : Int) (by omega) (by omega)
            cases e1
            obtain ⟨a2, e2, hy2⟩ := Kd.at_int HC9.out (i : Int) (by omega) (by rw [List.length_map]; omega)
            cases e2
            have hg : rd l (i : Int) = l[i] := by unfold rd; simp [hlt]
            have hg2 : rd (l.map Pl.norm) (i : Int) = Pl.norm l[i] := by unfold rd; simp [hlt]
            rw [hg, Int.toNat_natCast] at hy1
            rw [hg2, Int.toNat_natCast] at hy2
            obtain ⟨x, hx⟩ : ∃ x, l[i] = x := ⟨_, rfl⟩
            rw [hx] at hy1 hy2
            clear hg hg2 hx
            replace hy1 := pw_cell_below HBr.out.2 hy1
            replace hy2 := pw_cell_below HBr.out.2 hy2
            have hlt1 : decide ((i : Int) < (l.length : Int)) = true := decide_eq_true (by omega)
            by_cases k1 : x < 0
            · have d1 : decide (x < 0) = true := decide_eq_true (by omega)
              have hnx : Pl.norm x = 65533 := by unfold Pl.norm; rw [if_pos (by omega)]
              rw [hnx] at hy2
              clear hnx
              go_wp2
              repeat (go_quiet (fail); try go_wp2)
              go_roundw
              case measure => simp [intOf]; omega
              case rel => exact ⟨i + 1, by omega, by go_num, ⟨⟨by first | exact HBr.out.1 | exact below_drewNv HBr.out.1 _ | exact below_drewNv (below_drewNv HBr.out.1 _) _, by first | exact HBr.out.2 | exact below_drewNv HBr.out.2 _ | exact below_drewNv (below_drewNv HBr.out.2 _) _⟩⟩⟩
            by_cases k2 : 1114111 < x
            · have d1 : decide (x < 0) = false := decide_eq_false (by omega)
              have d2 : decide ((1114111 : Int) < x) = true := decide_eq_true (by omega)
              have hnx : Pl.norm x = 65533 := by unfold Pl.norm; rw [if_pos (by omega)]
              rw [hnx] at hy2
              clear hnx
              go_wp2
              repeat (go_quiet (fail); try go_wp2)
              go_roundw
              case measure => simp [intOf]; omega
              case rel => exact ⟨i + 1, by omega, by go_num, ⟨⟨by first | exact HBr.out.1 | exact below_drewNv HBr.out.1 _ | exact below_drewNv (below_drewNv HBr.out.1 _) _, by first | exact HBr.out.2 | exact below_drewNv HBr.out.2 _ | exact below_drewNv (below_drewNv HBr.out.2 _) _⟩⟩⟩
            by_cases k3 : 55296 ≤ x
            · by_cases k4 : x ≤ 57343
              · have d1 : decide (x < 0) = false := decide_eq_false (by omega)
                have d2 : decide ((1114111 : Int) < x) = false := decide_eq_false (by omega)
                have d3 : decide ((55296 : Int) ≤ x) = true := decide_eq_true (by omega)
                have d4 : decide (x ≤ 57343) = true := decide_eq_true (by omega)
                have hnx : Pl.norm x = 65533 := by unfold Pl.norm; rw [if_pos (by omega)]
                rw [hnx] at hy2
                clear hnx
                go_wp2
                repeat (go_quiet (fail); try go_wp2)
                go_roundw
                case measure => simp [intOf]; omega
                case rel => exact ⟨i + 1, by omega, by go_num, ⟨⟨by first | exact HBr.out.1 | exact below_drewNv HBr.out.1 _ | exact below_drewNv (below_drewNv HBr.out.1 _) _, by first | exact HBr.out.2 | exact below_drewNv HBr.out.2 _ | exact below_drewNv (below_drewNv HBr.out.2 _) _⟩⟩⟩
              · have d1 : decide (x < 0) = false := decide_eq_false (by omega)
                have d2 : decide ((1114111 : Int) < x) = false := decide_eq_false (by omega)
                have d3 : decide ((55296 : Int) ≤ x) = true := decide_eq_true (by omega)
                have d4 : decide (x ≤ 57343) = false := decide_eq_false (by omega)
                have hnx : Pl.norm x = x := by unfold Pl.norm; rw [if_neg (by omega)]
                rw [hnx] at hy2
                have hqx : (x != x) = false := by simp
                clear hnx
                go_wp2
                repeat (go_quiet (fail); try go_wp2)
                go_roundw
                case measure => simp [intOf]; omega
                case rel => exact ⟨i + 1, by omega, by go_num, ⟨⟨by first | exact HBr.out.1 | exact below_drewNv HBr.out.1 _ | exact below_drewNv (below_drewNv HBr.out.1 _) _, by first | exact HBr.out.2 | exact below_drewNv HBr.out.2 _ | exact below_drewNv (below_drewNv HBr.out.2 _) _⟩⟩⟩
            · have d1 : decide (x < 0) = false := decide_eq_false (by omega)
              have d2 : decide ((1114111 : Int) < x) = false := decide_eq_false (by omega)
              have d3 : decide ((55296 : Int) ≤ x) = false := decide_eq_false (by omega)
              have hnx : Pl.norm x = x := by unfold Pl.norm; rw [if_neg (by omega)]
              rw [hnx] at hy2
              have hqx : (x != x) = false := by simp
              clear hnx
              go_wp2
              repeat (go_quiet (fail); try go_wp2)
              go_roundw
              case measure => simp [intOf]; omega
              case rel => exact ⟨i + 1, by omega, by go_num, ⟨⟨by first | exact HBr.out.1 | exact below_drewNv HBr.out.1 _ | exact below_drewNv (below_drewNv HBr.out.1 _) _, by first | exact HBr.out.2 | exact below_drewNv HBr.out.2 _ | exact below_drewNv (below_drewNv HBr.out.2 _) _⟩⟩⟩
          · have hlt1 : decide ((i : Int) < (l.length : Int)) = false := decide_eq_false (by omega)
            have HUr := Lib.hid (utf8_below' HU.out HBr.out.1 h6)
            go_wp2_with (go_at_call 29; refine (awake01 _ HUr.out).mono ?_; rintro e w10 ⟨rfl, hb⟩; have HB10 := Aside0.mk (HBr.out.1.trans (hb.mono HBr.out.1.size)); clear hb)
            go_ret
            exact ⟨rfl, HB10.out⟩
    · have hl' : (268435455 : Int) < l.length := by omega
      have hl2' : (s.size : Int) ≤ 268435455 := by omega
      go_enter Tryd.func14, Tryd.ntmps14
      go_wp2
      go_ret
      exact ⟨rfl, Below.refl _ _⟩
  · have hl' : (268435455 : Int) < s.size := by omega
    go_enter Tryd.func14, Tryd.ntmps14
    go_wp2
    go_ret
    exact ⟨rfl, Below.refl _ _⟩
end Go.Proofs.YtocijojjfcpaoaaDoor
