/- The walk of CharSteps. -/
import Derived.Test.YtocijojjfcpaoaaDoorLast
set_option linter.unusedVariables false
set_option linter.unusedSimpArgs false
namespace Go.Proofs.YtocijojjfcpaoaaDoor
open Go.RowKit Go.Proofs.YtocijojjfcpaoaaDoorW.PrintWords Go.Proofs.YtocijojjfcpaoaaDoorW.PrintMore

theorem AtRune.in_of_lt {s : ByteArray} {i k : Nat} (h : AtRune s i k) (hk : k < (Pl.runes s 0).length) : i < s.size := by
  apply Classical.byContradiction
  intro hn
  have := h.len (by omega) hn
  omega
theorem AtRune.at_ {s : ByteArray} : ∀ k, k ≤ (Pl.runes s 0).length → ∃ i, AtRune s i k
  | 0, _ => ⟨0, atRune0 s⟩
  | k + 1, h => by
    obtain ⟨i, hi⟩ := AtRune.at_ (s := s) k (by omega)
    exact ⟨_, hi.next (hi.in_of_lt (by omega))⟩
theorem AtRune.prev {s : ByteArray} {i k : Nat} (h : AtRune s i (k + 1)) (hk : k < (Pl.runes s 0).length) : ∃ p, AtRune s p k ∧ p < s.size ∧ i = p + (Utf8.decode s p).2 := by
  obtain ⟨p, hp⟩ := AtRune.at_ (s := s) k (by omega)
  have hps := hp.in_of_lt hk
  exact ⟨p, hp, hps, h.same (hp.next hps)⟩

set_option maxRecDepth 100000 in
set_option maxHeartbeats 2000000 in
theorem charSteps_walk (s : ByteArray) (w : World) (hs : s.size ≤ 140737488351232) (hu : Lib.Utf8Tabs 4 5 w) :
    Calls Tryd.prog 16 #[.string s] w fun e w' => e = .returned (.bool true) ∧ Below w.heap.size w w' := by
  have h6 : 6 ≤ w.heap.size := World.block_lt_of_cell? w _ (hu.2 0 (by decide)).1
  have HU := Lib.hid hu
  clear hu
  by_cases hl : s.size ≤ 536870911
  · have hlen := Pl.runes_length s s.size 0 (by omega)
    obtain ⟨m, hm⟩ : ∃ m, (Pl.runes s 0).length = m := ⟨_, rfl⟩
    have hP : (Pl.plcs (Pl.runes s 0)).length = m := by rw [len_plcs, hm]
    have hQ : (Pl.pts (Pl.runes s 0)).length = m := by rw [len_pts, hm]
    have P1 := places_row s w (by omega)
    have P2 : ∀ w, _ := fun w => points_row s w (by omega)
    rw [hP] at P1
    rw [hQ] at P2
    have C1 := Lib.hid P1
    have C2 := Lib.hid P2
    clear P1 P2
    go_enter Tryd.func16, Tryd.ntmps16
    go_wp2_with (go_at_call 44; with_reducible refine C1.out.mono ?_; rintro e w1 ⟨A1, c1, rfl, hc1, hC1, hb⟩; have HB1 := Aside0.mk hb; have HC1 := Aside0.mk hC1; have Hc1 := Aside0.mk hc1; clear hb hC1 hc1)
    go_wp2_with (go_at_call 27; with_reducible refine (C2.out _).mono ?_; rintro e w2 ⟨A2, c2, rfl, hc2, hC2, hb⟩; have HB2 := Aside0.mk (HB1.out.trans (hb.mono HB1.out.size)); have HC12 := Aside0.mk (Kd.C_below HC1.out hb); have HC2 := Aside0.mk hC2; have Hc2 := Aside0.mk hc2; clear hb hC2 hc2)
    go_loopw [5, 6, 7] (fun v5 v6 v7 wr => ∃ (i k : Nat) (v : Bool), v5 = .bool v ∧ v6 = .int .i64 i ∧ v7 = .int .i64 k ∧ k ≤ m ∧ Aside0 (AtRune s i k) ∧ Hid ((v && Pl.valid s i) = Pl.valid s 0) ∧ Aside0 (Below w.heap.size w wr ∧ Below w2.heap.size w2 wr)) (fun _ _ v7 _ => m - (intOf v7).toNat)
    case atStart => exact ⟨0, 0, true, rfl, rfl, rfl, by omega, ⟨atRune0 s⟩, Bool.true_and _, ⟨HB2.out, Below.refl _ _⟩⟩
    case round =>
      obtain ⟨i, k, v, rfl, rfl, rfl, hk, HAT, HV, HB⟩ := hrel
      by_cases hkm : k < m
      · have hp : i < s.size := HAT.out.in_of_lt (by omega)
        have hd1 := Pl.dec_pos s i hp
        have hd2 := Pl.dec_in s i hp
        have hd4 := Pl.dec_le4 s i hp
        have hpt := i64_dec s i hp
        have HGET := Aside0.mk (HAT.out.get hp)
        have hrd := Aside0.mk (rd_plcs _ _ _ HGET.out)
        obtain ⟨a1, e1, hy1⟩ := Kd.at_int HC12.out (k : Int) (by omega) (by rw [hP]; omega)
        cases e1
        obtain ⟨a2, e2, hy2⟩ := Kd.at_int HC2.out (k : Int) (by omega) (by rw [hQ]; omega)
        cases e2
        rw [Int.toNat_natCast, hrd.out.1] at hy1
        rw [Int.toNat_natCast, hrd.out.2] at hy2
        replace hy1 := pw_cell_below HB.out.2 hy1
        replace hy2 := pw_cell_below HB.out.2 hy2
        have hlt1 : decide ((k : Int) < (m : Int)) = true := decide_eq_true (by omega)
        have hge2 : decide ((m : Int) ≤ (k : Int)) = false := decide_eq_false (by omega)
        have hn1 : decide (((Utf8.decode s i).2 : Int) < 1) = false := decide_eq_false (by omega)
        have hn4 : decide ((4 : Int) < ((Utf8.decode s i).2 : Int)) = false := decide_eq_false (by omega)
        have hq1 : ((i : Int) != (i : Int)) = false := by simp
        have hq2 : (((Utf8.decode s i).1 : Int) != ((Utf8.decode s i).1 : Int)) = false := by simp
        have CN0 := next_any s (i : Int) wr hs
        have en : Pl.next s (i : Int) = (((Utf8.decode s i).1 : Int), ((Utf8.decode s i).2 : Int), Pl.good s i) := by unfold Pl.next; rw [if_pos (by omega), Int.toNat_natCast]
        rw [en] at CN0
        have hvs0 := Pl.valid_step s i hp
        have hbad := Pl.bad_iff s i hp
        clear en
        by_cases hok : Pl.ok s i
        · rw [show Pl.good s i = true from decide_eq_true hok] at CN0 hvs0
          have CN := Aside0.mk CN0
          have hvs := Aside0.mk hvs0
          clear hok CN0 hvs0 hbad
          cases v
          · go_wp2_with (go_at_call 26; with_reducible refine CN.out.mono ?_; rintro e w3 ⟨rfl, hb⟩; have HB3 := Aside0.mk (And.intro (HB.out.1.trans (hb.mono HB.out.1.size)) (HB.out.2.trans (hb.mono HB.out.2.size))); have hz1 := pw_cell_below hb hy1; have hz2 := pw_cell_below hb hy2; clear hb)
            repeat (go_quiet (fail); try go_wp2)
            go_roundw
            case measure => simp [intOf]; omega
            case rel =>
              refine ⟨i + (Utf8.decode s i).2, k + 1, false, rfl, by go_num, by go_num, by omega, ⟨HAT.out.next hp⟩, ?_, HB3⟩
              show _ = _
              rw [← HV.out, hvs.out]
              rfl
          · go_wp2_with (go_at_call 26; with_reducible refine CN.out.mono ?_; rintro e w3 ⟨rfl, hb⟩; have HB3 := Aside0.mk (And.intro (HB.out.1.trans (hb.mono HB.out.1.size)) (HB.out.2.trans (hb.mono HB.out.2.size))); have hz1 := pw_cell_below hb hy1; have hz2 := pw_cell_below hb hy2; clear hb)
            repeat (go_quiet (fail); try go_wp2)
            go_roundw
            case measure => simp [intOf]; omega
            case rel =>
              refine ⟨i + (Utf8.decode s i).2, k + 1, true, rfl, by go_num, by go_num, by omega, ⟨HAT.out.next hp⟩, ?_, HB3⟩
              show _ = _
              rw [← HV.out, hvs.out]
              rfl
        · rw [show Pl.good s i = false from decide_eq_false hok] at CN0 hvs0
          have CN := Aside0.mk CN0
          have hvs := Aside0.mk hvs0
          have hb3 := hbad.2 hok
          have hrb : (((Utf8.decode s i).1 : Int) != 65533) = false := by rw [bne_eq_false_iff_eq]; omega
          have hnb : (((Utf8.decode s i).2 : Int) != 1) = false := by rw [bne_eq_false_iff_eq]; omega
          clear hok CN0 hvs0 hbad hb3
          cases v
          · go_wp2_with (go_at_call 26; with_reducible refine CN.out.mono ?_; rintro e w3 ⟨rfl, hb⟩; have HB3 := Aside0.mk (And.intro (HB.out.1.trans (hb.mono HB.out.1.size)) (HB.out.2.trans (hb.mono HB.out.2.size))); have hz1 := pw_cell_below hb hy1; have hz2 := pw_cell_below hb hy2; clear hb)
            repeat (go_quiet (fail); try go_wp2)
            go_roundw
            case measure => simp [intOf]; omega
            case rel =>
              refine ⟨i + (Utf8.decode s i).2, k + 1, false, rfl, by go_num, by go_num, by omega, ⟨HAT.out.next hp⟩, ?_, HB3⟩
              show _ = _
              rw [← HV.out, hvs.out]
              rfl
          · go_wp2_with (go_at_call 26; with_reducible refine CN.out.mono ?_; rintro e w3 ⟨rfl, hb⟩; have HB3 := Aside0.mk (And.intro (HB.out.1.trans (hb.mono HB.out.1.size)) (HB.out.2.trans (hb.mono HB.out.2.size))); have hz1 := pw_cell_below hb hy1; have hz2 := pw_cell_below hb hy2; clear hb)
            repeat (go_quiet (fail); try go_wp2)
            go_roundw
            case measure => simp [intOf]; omega
            case rel =>
              refine ⟨i + (Utf8.decode s i).2, k + 1, false, rfl, by go_num, by go_num, by omega, ⟨HAT.out.next hp⟩, ?_, HB3⟩
              show _ = _
              rw [← HV.out, hvs.out]
              rfl
      · obtain rfl : k = m := by omega
        have hend : ¬ i < s.size := fun h => hkm (by have := HAT.out.lt h; omega)
        obtain rfl : i = s.size := by have := HAT.out.le; omega
        have hv := HV.out
        rw [Pl.valid_end s s.size hend, Bool.and_true] at hv
        subst hv
        have hq1 : ((s.size : Int) != (s.size : Int)) = false := by simp
        have hq2 : (Pl.valid s 0 != Pl.valid s 0) = false := by simp
        have HUw := Lib.hid (utf8_below' HU.out HB.out.1 h6)
        have C4 := Lib.hid (valid_any s wr hs HUw.out)
        go_wp2_with (go_at_call 47; with_reducible refine C4.out.mono ?_; rintro e w3 ⟨rfl, hb⟩; have HB3 := Aside0.mk (And.intro (HB.out.1.trans (hb.mono HB.out.1.size)) (HB.out.2.trans (hb.mono HB.out.2.size))); clear hb)
        repeat (go_quiet (fail); try go_wp2)
        go_loopw [6, 11] (fun v6 v11 wr => ∃ (i kk : Nat) (z : Int), v6 = .int .i64 i ∧ v11 = .int .i64 z ∧ z + 1 = kk ∧ kk ≤ k ∧ Aside0 (AtRune s i kk) ∧ Aside0 (Below w.heap.size w wr ∧ Below w2.heap.size w2 wr)) (fun _ v11 _ => (intOf v11 + 1).toNat)
        case atStart => exact ⟨s.size, k, (k : Int) - 1, rfl, rfl, by omega, by omega, HAT, HB3⟩
        case round =>
          obtain ⟨i, kk, z, rfl, rfl, hz, hkk, HAT2, HBr⟩ := hrel
          cases kk with
          | zero =>
            obtain rfl : z = -1 := by omega
            have hi0 : i = 0 := HAT2.out.same (atRune0 s)
            subst hi0
            have HUr := Lib.hid (utf8_below' HU.out HBr.out.1 h6)
            go_wp2_with (go_at_call 29; refine (awake01 _ HUr.out).mono ?_; rintro e w4 ⟨rfl, hb⟩; have HB4 := Aside0.mk (HBr.out.1.trans (hb.mono HBr.out.1.size)); clear hb)
            go_ret
            exact ⟨rfl, HB4.out⟩
          | succ j =>
            obtain rfl : z = (j : Int) := by omega
            clear hz
            obtain ⟨p, hpa, hps, hpe⟩ := HAT2.out.prev (by omega)
            have HPA := Aside0.mk hpa
            have HPE := Aside0.mk hpe
            have HUr := Lib.hid (utf8_below' HU.out HBr.out.1 h6)
            have C50 := last_rune hpa hps wr hs HUr.out
            rw [← hpe] at C50
            have C5 := Aside0.mk C50
            have C60 : ∀ w, _ := fun w => next_any s (p : Int) w hs
            have en : Pl.next s (p : Int) = (((Utf8.decode s p).1 : Int), ((Utf8.decode s p).2 : Int), Pl.good s p) := by unfold Pl.next; rw [if_pos (by omega), Int.toNat_natCast]
            rw [en] at C60
            have C6 := Aside0.mk C60
            have hd1 := Pl.dec_pos s p hps
            have hd2 := Pl.dec_in s p hps
            have hd4 := Pl.dec_le4 s p hps
            have hrd := Aside0.mk (rd_plcs _ _ _ (hpa.get hps))
            have hi1 : (i : Int) ≤ s.size := by omega
            obtain ⟨a1, e1, hy1⟩ := Kd.at_int HC12.out (j : Int) (by omega) (by rw [hP]; omega)
            cases e1
            rw [Int.toNat_natCast, hrd.out.1] at hy1
            replace hy1 := pw_cell_below HBr.out.2 hy1
            have hjk : (j : Int) < (k : Int) := by omega
            have hqa : ((i : Int) - ((Utf8.decode s p).2 : Int) != (p : Int)) = false := by rw [bne_eq_false_iff_eq]; omega
            have hq3 : (((Utf8.decode s p).1 : Int) != ((Utf8.decode s p).1 : Int)) = false := by simp
            have hq4 : (((Utf8.decode s p).2 : Int) != ((Utf8.decode s p).2 : Int)) = false := by simp
            have hq5 : (Pl.good s p != Pl.good s p) = false := by simp
            clear hpa hpe C50 C60 en
            go_wp2_with (go_at_call 48; with_reducible refine C5.out.mono ?_; rintro e w3 ⟨rfl, hb⟩; have HB5 := Aside0.mk (And.intro (HBr.out.1.trans (hb.mono HBr.out.1.size)) (HBr.out.2.trans (hb.mono HBr.out.2.size))); have hy2 := pw_cell_below hb hy1; clear hb)
            repeat (go_quiet (fail); try go_wp2)
            go_wp2_with (go_at_call 26; with_reducible refine (C6.out _).mono ?_; rintro e w4 ⟨rfl, hb⟩; have HB6 := Aside0.mk (And.intro (HB5.out.1.trans (hb.mono HB5.out.1.size)) (HB5.out.2.trans (hb.mono HB5.out.2.size))); have hy3 := pw_cell_below hb hy2; clear hb)
            repeat (go_quiet (fail); try go_wp2)
            go_roundw
            case measure => simp [intOf]
            case rel => exact ⟨p, j, (j : Int) - 1, congrArg (Value.int .i64) (by have := HPE.out; omega), rfl, by omega, by omega, HPA, HB6⟩
  · have hl' : (536870911 : Int) < s.size := by omega
    go_enter Tryd.func16, Tryd.ntmps16
    go_wp2
    go_ret
    exact ⟨rfl, Below.refl _ _⟩
end Go.Proofs.YtocijojjfcpaoaaDoor
