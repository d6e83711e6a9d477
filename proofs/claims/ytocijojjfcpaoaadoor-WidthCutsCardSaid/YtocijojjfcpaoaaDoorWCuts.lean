/- The walk of WidthCuts (printed by genwc.py). -/
import Derived.Test.YtocijojjfcpaoaaDoorCuts
import Derived.Test.YtocijojjfcpaoaaDoorWk02
import Derived.Test.YtocijojjfcpaoaaDoorWhole2
import Derived.Test.YtocijojjfcpaoaaDoorNext
set_option linter.unusedVariables false
set_option linter.unusedSimpArgs false
namespace Go.Proofs.YtocijojjfcpaoaaDoor
open Go.RowKit Go.Proofs.YtocijojjfcpaoaaDoorW.PrintWords

theorem cut_both {s : ByteArray} {e e2 : Nat} (h : e ≤ e2) (h2 : e2 ≤ s.size) : (s.extract 0 e2).extract 0 e = s.extract 0 e := by
  apply bx_ext
  rw [bx_cut, bx_cut, bx_cut]
  simp only [List.drop_zero, Nat.sub_zero, List.take_take]
  rw [Nat.min_eq_left h]

set_option maxRecDepth 100000 in
set_option maxHeartbeats 2000000 in
theorem wc_pw_neg (s t : ByteArray) (q : Int) (m : Int) (w : World) (hs : s.size ≤ 268435455) (ht : t.size ≤ 268435455) (hq0 : -9223372036854775808 ≤ q) (hq1 : q ≤ 9223372036854775807) (hm0 : 0 ≤ m) (hm1 : m ≤ 255)
    (hA : q ≤ 2147483647) (hwh : Pl.whole s = s.size) (c : Int) (hcq : c = q) (hC : c < 0) (e e2 : Nat) (n n2 : Int) (he : Pl.cut s c = (e, n)) (he2 : Pl.cut s (c + m) = (e2, n2))
    (hw : WTabs w) (hu : Lib.Utf8Tabs 4 5 w) :
    Calls Tryd.prog 6 #[.string s, .string t, .int .i64 q, .int .u8 m] w fun e w' => e = .returned (.bool true) ∧ Below w.heap.size w w' := by
  have h6 : 6 ≤ w.heap.size := World.block_lt_of_cell? w _ (hu.2 0 (by decide)).1
  have h2 : 2 ≤ w.heap.size := by omega
  have HU := Lib.hid hu
  have HT := Lib.hid hw
  clear hu hw
  have hc1 : c ≤ 2147483647 := by
    omega
  have hc0 : -9223372036854775808 ≤ c := by
    omega
  obtain ⟨ws, hws⟩ : ∃ x, Pl.wsum (Pl.pts (Pl.runes s 0)) = x := ⟨_, rfl⟩
  obtain ⟨wt, hwt⟩ : ∃ x, Pl.wsum (Pl.pts (Pl.runes t 0)) = x := ⟨_, rfl⟩
  have hls := Pl.runes_length s s.size 0 (by omega)
  have hlt := Pl.runes_length t t.size 0 (by omega)
  have hwsb : 0 ≤ ws ∧ ws ≤ 536870910 := by
    rw [← hws]
    have h1 := wsum_nonneg (Pl.pts (Pl.runes s 0)); have h2 := wsum_le (Pl.pts (Pl.runes s 0))
    rw [Pl.pts, List.length_map] at h2
    unfold Pl.pts at h1 ⊢
    omega
  have hwtb : 0 ≤ wt ∧ wt ≤ 536870910 := by
    rw [← hwt]
    have h1 := wsum_nonneg (Pl.pts (Pl.runes t 0)); have h2 := wsum_le (Pl.pts (Pl.runes t 0))
    rw [Pl.pts, List.length_map] at h2
    unfold Pl.pts at h1 ⊢
    omega
  have hw0 := hwsb.1; have hw1 := hwsb.2; have hv0 := hwtb.1; have hv1 := hwtb.2
  have hall := cut_said s ws hw0
  have hall2 : Pl.cut s ws = (s.size, ws) := by
    rw [← hws] at hall ⊢
    have := cut_all_said hall
    exact Prod.ext this.1 this.2
  have hlow := cut_low s c hC
  rw [he] at hlow
  obtain ⟨rfl, rfl⟩ : e = 0 ∧ n = 0 := ⟨congrArg Prod.fst hlow, congrArg Prod.snd hlow⟩
  have hx2 : e2 ≤ s.size ∧ 0 ≤ n2 := by
    by_cases h0 : c + m < 0
    · have := cut_low s _ h0
      rw [he2] at this
      have h1 : e2 = 0 := congrArg Prod.fst this
      have h3 : n2 = 0 := congrArg Prod.snd this
      omega
    · have hd := cut_said s _ (show 0 ≤ c + m by omega)
      rw [he2] at hd
      have h1 := cut_in hd
      have h3 := cut_text hd
      have h4 := wsum_nonneg (Pl.pts (Pl.runes (s.extract 0 e2) 0))
      have h5 : n2 = Pl.wsum (Pl.pts (Pl.runes (s.extract 0 e2) 0)) := h3
      exact ⟨h1, by rw [h5]; exact h4⟩
  have hee : 0 ≤ e2 := Nat.zero_le _
  have hes2 : e2 ≤ s.size := hx2.1
  have hnn : (0 : Int) ≤ n2 := hx2.2
  have hes : 0 ≤ s.size := Nat.zero_le _
  have hnt : (0 : Int) = Pl.wsum (Pl.pts (Pl.runes ByteArray.empty 0)) := rfl
  have hn0 : (0 : Int) ≤ 0 := Int.le_refl _
  have hz0 : ByteArray.empty.toList = [] := by rw [ByteArray.toList_eq]; rfl
  have hz1 : ByteArray.empty.toList.isEmpty = true := by rw [hz0]; rfl
  have hsz2 : (s.extract 0 e2).size = e2 := size_cut s e2 hes2
  have hsall : s.extract 0 s.size = s := extract_all s
  have CW := Lib.hid (fun w h => whole_any s w (by omega) h)
  have CT1 := Lib.hid (fun w h h2 => wtext_any s w (by omega) h h2)
  have CT2 := Lib.hid (fun w h h2 => wtext_any t w (by omega) h h2)
  have CT4 := Lib.hid (fun w h h2 => wtext_any ByteArray.empty w (by decide) h h2)
  have CC1 := Lib.hid (fun w h h2 => cut_calls s c w (by omega) (by omega) h h2)
  have CC2 := Lib.hid (fun w h h2 => cut_calls s (c + m) w (by omega) (by omega) h h2)
  have CC3 := Lib.hid (fun w h h2 => cut_calls s ws w (by omega) (by omega) h h2)
  rw [he] at CC1
  rw [he2] at CC2
  rw [hall2, hsall] at CC3
  rw [hws] at CT1
  rw [hwt] at CT2
  rw [← hnt] at CT4
  have hjoin : Pl.wsum (Pl.pts (Pl.runes (s ++ t) 0)) = ws + wt := by rw [pts_both s t hwh, wsum_append, hws, hwt]
  have CT3 := Lib.hid (fun w h h2 => wtext_any (s ++ t) w (by rw [ByteArray.size_append]; omega) h h2)
  rw [hjoin] at CT3
  clear hjoin
  have hwb1 : ((Pl.whole s : Int) == (s.size : Int)) = true := by rw [beq_iff_eq]; omega
  have HB0 := Aside0.mk (Below.refl w.heap.size w)
  have HCQ := Lib.hid hcq
  have HWH := Lib.hid hwh
  clear hwh hnt hws hwt hall hall2 he he2 hls hlt hwsb hwtb hlow hx2
  subst hcq
  have hA1 : decide ((2147483647 : Int) < c) = false := decide_eq_false (by omega)
  have hD1 : decide ((s.size : Int) < ((0 : Nat) : Int)) = false := decide_eq_false (by omega)
  have hD1' : decide (s.size < 0) = false := decide_eq_false (by omega)
  have hD2 : decide ((e2 : Int) < ((0 : Nat) : Int)) = false := decide_eq_false (by omega)
  have hD2' : decide (e2 < 0) = false := decide_eq_false (by omega)
  have hD3 : decide (n2 < 0) = false := decide_eq_false (by omega)
  have hD4 : decide (0 < (0 : Int)) = false := decide_eq_false (by omega)
  go_enter Tryd.func6, Tryd.ntmps6
  go_wp2_with (go_at_call 25; with_reducible refine (CW.out _ HU.out h6).mono ?_; rintro e' w1 ⟨rfl, hb⟩; have HB1 := Aside0.mk (HB0.out.trans (hb.mono HB0.out.size)); have HT1 := Lib.hid (HT.out.below HB1.out h2); have h21 := Lib.hid (Nat.le_trans h2 HB1.out.size); clear hb)
  go_wp2_with (go_at_call 23; with_reducible refine (CT3.out _ HT1.out h21.out).mono ?_; rintro e' w2 ⟨rfl, hb⟩; have HB2 := Aside0.mk (HB1.out.trans (hb.mono HB1.out.size)); have HT2 := Lib.hid (HT.out.below HB2.out h2); have h22 := Lib.hid (Nat.le_trans h2 HB2.out.size); clear hb)
  go_wp2_with (go_at_call 23; with_reducible refine (CT1.out _ HT2.out h22.out).mono ?_; rintro e' w3 ⟨rfl, hb⟩; have HB3 := Aside0.mk (HB2.out.trans (hb.mono HB2.out.size)); have HT3 := Lib.hid (HT.out.below HB3.out h2); have h23 := Lib.hid (Nat.le_trans h2 HB3.out.size); clear hb)
  go_wp2_with (go_at_call 23; with_reducible refine (CT2.out _ HT3.out h23.out).mono ?_; rintro e' w4 ⟨rfl, hb⟩; have HB4 := Aside0.mk (HB3.out.trans (hb.mono HB3.out.size)); have HT4 := Lib.hid (HT.out.below HB4.out h2); have h24 := Lib.hid (Nat.le_trans h2 HB4.out.size); clear hb)
  go_wp2_with (go_at_call 21; with_reducible refine (CC1.out _ HT4.out h24.out).mono ?_; rintro e' w5 ⟨rfl, hb⟩; have HB5 := Aside0.mk (HB4.out.trans (hb.mono HB4.out.size)); have HT5 := Lib.hid (HT.out.below HB5.out h2); have h25 := Lib.hid (Nat.le_trans h2 HB5.out.size); clear hb)
  go_wp2_with (go_at_call 21; with_reducible refine (CC2.out _ HT5.out h25.out).mono ?_; rintro e' w6 ⟨rfl, hb⟩; have HB6 := Aside0.mk (HB5.out.trans (hb.mono HB5.out.size)); have HT6 := Lib.hid (HT.out.below HB6.out h2); have h26 := Lib.hid (Nat.le_trans h2 HB6.out.size); clear hb)
  go_wp2_with (go_at_call 23; with_reducible refine (CT1.out _ HT6.out h26.out).mono ?_; rintro e' w7 ⟨rfl, hb⟩; have HB7 := Aside0.mk (HB6.out.trans (hb.mono HB6.out.size)); have HT7 := Lib.hid (HT.out.below HB7.out h2); have h27 := Lib.hid (Nat.le_trans h2 HB7.out.size); clear hb)
  go_wp2_with (go_at_call 21; with_reducible refine (CC3.out _ HT7.out h27.out).mono ?_; rintro e' w8 ⟨rfl, hb⟩; have HB8 := Aside0.mk (HB7.out.trans (hb.mono HB7.out.size)); have HT8 := Lib.hid (HT.out.below HB8.out h2); have h28 := Lib.hid (Nat.le_trans h2 HB8.out.size); clear hb)
  go_wp2_with (go_at_call 23; with_reducible refine (CT1.out _ HT8.out h28.out).mono ?_; rintro e' w9 ⟨rfl, hb⟩; have HB9 := Aside0.mk (HB8.out.trans (hb.mono HB8.out.size)); have HT9 := Lib.hid (HT.out.below HB9.out h2); have h29 := Lib.hid (Nat.le_trans h2 HB9.out.size); clear hb)
  go_wp2_with (go_at_call 23; with_reducible refine (CT4.out _ HT9.out h29.out).mono ?_; rintro e' w10 ⟨rfl, hb⟩; have HB10 := Aside0.mk (HB9.out.trans (hb.mono HB9.out.size)); have HT10 := Lib.hid (HT.out.below HB10.out h2); have h210 := Lib.hid (Nat.le_trans h2 HB10.out.size); clear hb)
  go_wp2_with (go_at_call 20; with_reducible refine (awake02 _ HT10.out h210.out).mono ?_; rintro e' w11 ⟨rfl, hb⟩; have HB11 := Aside0.mk (HB10.out.trans (hb.mono HB10.out.size)); have HT11 := Lib.hid (HT.out.below HB11.out h2); have h211 := Lib.hid (Nat.le_trans h2 HB11.out.size); clear hb)
  go_ret
  exact ⟨rfl, HB11.out⟩

set_option maxRecDepth 100000 in
set_option maxHeartbeats 2000000 in
theorem wc_pw_all (s t : ByteArray) (q : Int) (m : Int) (w : World) (hs : s.size ≤ 268435455) (ht : t.size ≤ 268435455) (hq0 : -9223372036854775808 ≤ q) (hq1 : q ≤ 9223372036854775807) (hm0 : 0 ≤ m) (hm1 : m ≤ 255)
    (hA : q ≤ 2147483647) (hwh : Pl.whole s = s.size) (c : Int) (hcq : c = q) (hC : 0 ≤ c) (e e2 : Nat) (n n2 : Int) (he : Pl.cut s c = (e, n)) (he2 : Pl.cut s (c + m) = (e2, n2)) (hfull : e = s.size)
    (hw : WTabs w) (hu : Lib.Utf8Tabs 4 5 w) :
    Calls Tryd.prog 6 #[.string s, .string t, .int .i64 q, .int .u8 m] w fun e w' => e = .returned (.bool true) ∧ Below w.heap.size w w' := by
  have h6 : 6 ≤ w.heap.size := World.block_lt_of_cell? w _ (hu.2 0 (by decide)).1
  have h2 : 2 ≤ w.heap.size := by omega
  have HU := Lib.hid hu
  have HT := Lib.hid hw
  clear hu hw
  have hc1 : c ≤ 2147483647 := by
    omega
  have hc0 : -9223372036854775808 ≤ c := by
    omega
  obtain ⟨ws, hws⟩ : ∃ x, Pl.wsum (Pl.pts (Pl.runes s 0)) = x := ⟨_, rfl⟩
  obtain ⟨wt, hwt⟩ : ∃ x, Pl.wsum (Pl.pts (Pl.runes t 0)) = x := ⟨_, rfl⟩
  have hls := Pl.runes_length s s.size 0 (by omega)
  have hlt := Pl.runes_length t t.size 0 (by omega)
  have hwsb : 0 ≤ ws ∧ ws ≤ 536870910 := by
    rw [← hws]
    have h1 := wsum_nonneg (Pl.pts (Pl.runes s 0)); have h2 := wsum_le (Pl.pts (Pl.runes s 0))
    rw [Pl.pts, List.length_map] at h2
    unfold Pl.pts at h1 ⊢
    omega
  have hwtb : 0 ≤ wt ∧ wt ≤ 536870910 := by
    rw [← hwt]
    have h1 := wsum_nonneg (Pl.pts (Pl.runes t 0)); have h2 := wsum_le (Pl.pts (Pl.runes t 0))
    rw [Pl.pts, List.length_map] at h2
    unfold Pl.pts at h1 ⊢
    omega
  have hw0 := hwsb.1; have hw1 := hwsb.2; have hv0 := hwtb.1; have hv1 := hwtb.2
  have hall := cut_said s ws hw0
  have hall2 : Pl.cut s ws = (s.size, ws) := by
    rw [← hws] at hall ⊢
    have := cut_all_said hall
    exact Prod.ext this.1 this.2
  have hd := cut_said s c hC
  rw [he] at hd
  have hd2 := cut_said s (c + m) (by omega)
  rw [he2] at hd2
  have hw12 := cut_wider hd hd2 (by omega)
  have hee : e ≤ e2 := hw12.1
  have hnn : n ≤ n2 := hw12.2
  have hes2 : e2 ≤ s.size := cut_in hd2
  have hes : e ≤ s.size := cut_in hd
  have hnt : n = Pl.wsum (Pl.pts (Pl.runes (s.extract 0 e) 0)) := cut_text hd
  have hn0 : 0 ≤ n := by rw [hnt]; exact wsum_nonneg _
  have hnc : n ≤ c := hd.le
  clear hd hd2 hw12
  have hsz : (s.extract 0 e).size = e := size_cut s e hes
  have hbb : (s.extract 0 e2).extract 0 e = s.extract 0 e := cut_both hee hes2
  have hsz2 : (s.extract 0 e2).size = e2 := size_cut s e2 hes2
  have hsall : s.extract 0 s.size = s := extract_all s
  have CW := Lib.hid (fun w h => whole_any s w (by omega) h)
  have CT1 := Lib.hid (fun w h h2 => wtext_any s w (by omega) h h2)
  have CT2 := Lib.hid (fun w h h2 => wtext_any t w (by omega) h h2)
  have CT4 := Lib.hid (fun w h h2 => wtext_any (s.extract 0 e) w (by rw [size_cut s e hes]; omega) h h2)
  have CC1 := Lib.hid (fun w h h2 => cut_calls s c w (by omega) (by omega) h h2)
  have CC2 := Lib.hid (fun w h h2 => cut_calls s (c + m) w (by omega) (by omega) h h2)
  have CC3 := Lib.hid (fun w h h2 => cut_calls s ws w (by omega) (by omega) h h2)
  rw [he] at CC1
  rw [he2] at CC2
  rw [hall2, hsall] at CC3
  rw [hws] at CT1
  rw [hwt] at CT2
  rw [← hnt] at CT4
  have hjoin : Pl.wsum (Pl.pts (Pl.runes (s ++ t) 0)) = ws + wt := by rw [pts_both s t hwh, wsum_append, hws, hwt]
  have CT3 := Lib.hid (fun w h h2 => wtext_any (s ++ t) w (by rw [ByteArray.size_append]; omega) h h2)
  rw [hjoin] at CT3
  clear hjoin
  have hwb1 : ((Pl.whole s : Int) == (s.size : Int)) = true := by rw [beq_iff_eq]; omega
  have hfb : ((e : Int) == (s.size : Int)) = true := by rw [beq_iff_eq]; omega
  have HB0 := Aside0.mk (Below.refl w.heap.size w)
  have HCQ := Lib.hid hcq
  have HWH := Lib.hid hwh
  clear hwh hnt hws hwt hall hall2 he he2 hls hlt hwsb hwtb hfull
  subst hcq
  have hA1 : decide ((2147483647 : Int) < c) = false := decide_eq_false (by omega)
  have hD1 : decide ((s.size : Int) < ((e : Nat) : Int)) = false := decide_eq_false (by omega)
  have hD1' : decide (s.size < e) = false := decide_eq_false (by omega)
  have hD2 : decide ((e2 : Int) < ((e : Nat) : Int)) = false := decide_eq_false (by omega)
  have hD2' : decide (e2 < e) = false := decide_eq_false (by omega)
  have hD3 : decide (n2 < n) = false := decide_eq_false (by omega)
  have hD4 : decide (n < (0 : Int)) = false := decide_eq_false (by omega)
  go_enter Tryd.func6, Tryd.ntmps6
  go_wp2_with (go_at_call 25; with_reducible refine (CW.out _ HU.out h6).mono ?_; rintro e' w1 ⟨rfl, hb⟩; have HB1 := Aside0.mk (HB0.out.trans (hb.mono HB0.out.size)); have HT1 := Lib.hid (HT.out.below HB1.out h2); have h21 := Lib.hid (Nat.le_trans h2 HB1.out.size); clear hb)
  go_wp2_with (go_at_call 23; with_reducible refine (CT3.out _ HT1.out h21.out).mono ?_; rintro e' w2 ⟨rfl, hb⟩; have HB2 := Aside0.mk (HB1.out.trans (hb.mono HB1.out.size)); have HT2 := Lib.hid (HT.out.below HB2.out h2); have h22 := Lib.hid (Nat.le_trans h2 HB2.out.size); clear hb)
  go_wp2_with (go_at_call 23; with_reducible refine (CT1.out _ HT2.out h22.out).mono ?_; rintro e' w3 ⟨rfl, hb⟩; have HB3 := Aside0.mk (HB2.out.trans (hb.mono HB2.out.size)); have HT3 := Lib.hid (HT.out.below HB3.out h2); have h23 := Lib.hid (Nat.le_trans h2 HB3.out.size); clear hb)
  go_wp2_with (go_at_call 23; with_reducible refine (CT2.out _ HT3.out h23.out).mono ?_; rintro e' w4 ⟨rfl, hb⟩; have HB4 := Aside0.mk (HB3.out.trans (hb.mono HB3.out.size)); have HT4 := Lib.hid (HT.out.below HB4.out h2); have h24 := Lib.hid (Nat.le_trans h2 HB4.out.size); clear hb)
  go_wp2_with (go_at_call 21; with_reducible refine (CC1.out _ HT4.out h24.out).mono ?_; rintro e' w5 ⟨rfl, hb⟩; have HB5 := Aside0.mk (HB4.out.trans (hb.mono HB4.out.size)); have HT5 := Lib.hid (HT.out.below HB5.out h2); have h25 := Lib.hid (Nat.le_trans h2 HB5.out.size); clear hb)
  go_wp2_with (go_at_call 21; with_reducible refine (CC2.out _ HT5.out h25.out).mono ?_; rintro e' w6 ⟨rfl, hb⟩; have HB6 := Aside0.mk (HB5.out.trans (hb.mono HB5.out.size)); have HT6 := Lib.hid (HT.out.below HB6.out h2); have h26 := Lib.hid (Nat.le_trans h2 HB6.out.size); clear hb)
  go_wp2_with (go_at_call 23; with_reducible refine (CT1.out _ HT6.out h26.out).mono ?_; rintro e' w7 ⟨rfl, hb⟩; have HB7 := Aside0.mk (HB6.out.trans (hb.mono HB6.out.size)); have HT7 := Lib.hid (HT.out.below HB7.out h2); have h27 := Lib.hid (Nat.le_trans h2 HB7.out.size); clear hb)
  go_wp2_with (go_at_call 21; with_reducible refine (CC3.out _ HT7.out h27.out).mono ?_; rintro e' w8 ⟨rfl, hb⟩; have HB8 := Aside0.mk (HB7.out.trans (hb.mono HB7.out.size)); have HT8 := Lib.hid (HT.out.below HB8.out h2); have h28 := Lib.hid (Nat.le_trans h2 HB8.out.size); clear hb)
  go_wp2_with (go_at_call 23; with_reducible refine (CT1.out _ HT8.out h28.out).mono ?_; rintro e' w9 ⟨rfl, hb⟩; have HB9 := Aside0.mk (HB8.out.trans (hb.mono HB8.out.size)); have HT9 := Lib.hid (HT.out.below HB9.out h2); have h29 := Lib.hid (Nat.le_trans h2 HB9.out.size); clear hb)
  go_wp2_with (go_at_call 23; with_reducible refine (CT4.out _ HT9.out h29.out).mono ?_; rintro e' w10 ⟨rfl, hb⟩; have HB10 := Aside0.mk (HB9.out.trans (hb.mono HB9.out.size)); have HT10 := Lib.hid (HT.out.below HB10.out h2); have h210 := Lib.hid (Nat.le_trans h2 HB10.out.size); clear hb)
  go_wp2_with (go_at_call 20; with_reducible refine (awake02 _ HT10.out h210.out).mono ?_; rintro e' w11 ⟨rfl, hb⟩; have HB11 := Aside0.mk (HB10.out.trans (hb.mono HB10.out.size)); have HT11 := Lib.hid (HT.out.below HB11.out h2); have h211 := Lib.hid (Nat.le_trans h2 HB11.out.size); clear hb)
  go_ret
  exact ⟨rfl, HB11.out⟩

set_option maxRecDepth 100000 in
set_option maxHeartbeats 2000000 in
theorem wc_pw_good (s t : ByteArray) (q : Int) (m : Int) (w : World) (hs : s.size ≤ 268435455) (ht : t.size ≤ 268435455) (hq0 : -9223372036854775808 ≤ q) (hq1 : q ≤ 9223372036854775807) (hm0 : 0 ≤ m) (hm1 : m ≤ 255)
    (hA : q ≤ 2147483647) (hwh : Pl.whole s = s.size) (c : Int) (hcq : c = q) (hC : 0 ≤ c) (e e2 : Nat) (n n2 : Int) (he : Pl.cut s c = (e, n)) (he2 : Pl.cut s (c + m) = (e2, n2)) (hfull : e < s.size) (hok : Pl.ok s e)
    (hw : WTabs w) (hu : Lib.Utf8Tabs 4 5 w) :
    Calls Tryd.prog 6 #[.string s, .string t, .int .i64 q, .int .u8 m] w fun e w' => e = .returned (.bool true) ∧ Below w.heap.size w w' := by
  have h6 : 6 ≤ w.heap.size := World.block_lt_of_cell? w _ (hu.2 0 (by decide)).1
  have h2 : 2 ≤ w.heap.size := by omega
  have HU := Lib.hid hu
  have HT := Lib.hid hw
  clear hu hw
  have hc1 : c ≤ 2147483647 := by
    omega
  have hc0 : -9223372036854775808 ≤ c := by
    omega
  obtain ⟨ws, hws⟩ : ∃ x, Pl.wsum (Pl.pts (Pl.runes s 0)) = x := ⟨_, rfl⟩
  obtain ⟨wt, hwt⟩ : ∃ x, Pl.wsum (Pl.pts (Pl.runes t 0)) = x := ⟨_, rfl⟩
  have hls := Pl.runes_length s s.size 0 (by omega)
  have hlt := Pl.runes_length t t.size 0 (by omega)
  have hwsb : 0 ≤ ws ∧ ws ≤ 536870910 := by
    rw [← hws]
    have h1 := wsum_nonneg (Pl.pts (Pl.runes s 0)); have h2 := wsum_le (Pl.pts (Pl.runes s 0))
    rw [Pl.pts, List.length_map] at h2
    unfold Pl.pts at h1 ⊢
    omega
  have hwtb : 0 ≤ wt ∧ wt ≤ 536870910 := by
    rw [← hwt]
    have h1 := wsum_nonneg (Pl.pts (Pl.runes t 0)); have h2 := wsum_le (Pl.pts (Pl.runes t 0))
    rw [Pl.pts, List.length_map] at h2
    unfold Pl.pts at h1 ⊢
    omega
  have hw0 := hwsb.1; have hw1 := hwsb.2; have hv0 := hwtb.1; have hv1 := hwtb.2
  have hall := cut_said s ws hw0
  have hall2 : Pl.cut s ws = (s.size, ws) := by
    rw [← hws] at hall ⊢
    have := cut_all_said hall
    exact Prod.ext this.1 this.2
  have hd := cut_said s c hC
  rw [he] at hd
  have hd2 := cut_said s (c + m) (by omega)
  rw [he2] at hd2
  have hw12 := cut_wider hd hd2 (by omega)
  have hee : e ≤ e2 := hw12.1
  have hnn : n ≤ n2 := hw12.2
  have hes2 : e2 ≤ s.size := cut_in hd2
  have hes : e ≤ s.size := cut_in hd
  have hnt : n = Pl.wsum (Pl.pts (Pl.runes (s.extract 0 e) 0)) := cut_text hd
  have hn0 : 0 ≤ n := by rw [hnt]; exact wsum_nonneg _
  have hnc : n ≤ c := hd.le
  have hgt : n + Pl.widthOf ((Utf8.decode s e).1 : Int) > c := hd.full hfull
  have hwb := Pl.widthOf_bd ((Utf8.decode s e).1 : Int)
  have hpt := i64_dec s e hfull
  clear hd hd2 hw12
  have hsz : (s.extract 0 e).size = e := size_cut s e hes
  have hbb : (s.extract 0 e2).extract 0 e = s.extract 0 e := cut_both hee hes2
  have hsz2 : (s.extract 0 e2).size = e2 := size_cut s e2 hes2
  have hsall : s.extract 0 s.size = s := extract_all s
  have CW := Lib.hid (fun w h => whole_any s w (by omega) h)
  have CT1 := Lib.hid (fun w h h2 => wtext_any s w (by omega) h h2)
  have CT2 := Lib.hid (fun w h h2 => wtext_any t w (by omega) h h2)
  have CT4 := Lib.hid (fun w h h2 => wtext_any (s.extract 0 e) w (by rw [size_cut s e hes]; omega) h h2)
  have CC1 := Lib.hid (fun w h h2 => cut_calls s c w (by omega) (by omega) h h2)
  have CC2 := Lib.hid (fun w h h2 => cut_calls s (c + m) w (by omega) (by omega) h h2)
  have CC3 := Lib.hid (fun w h h2 => cut_calls s ws w (by omega) (by omega) h h2)
  rw [he] at CC1
  rw [he2] at CC2
  rw [hall2, hsall] at CC3
  rw [hws] at CT1
  rw [hwt] at CT2
  rw [← hnt] at CT4
  have hjoin : Pl.wsum (Pl.pts (Pl.runes (s ++ t) 0)) = ws + wt := by rw [pts_both s t hwh, wsum_append, hws, hwt]
  have CT3 := Lib.hid (fun w h h2 => wtext_any (s ++ t) w (by rw [ByteArray.size_append]; omega) h h2)
  rw [hjoin] at CT3
  clear hjoin
  have hwb1 : ((Pl.whole s : Int) == (s.size : Int)) = true := by rw [beq_iff_eq]; omega
  have CN0 : ∀ w, _ := fun w => next_any s (e : Int) w (by omega)
  have en : Pl.next s (e : Int) = (((Utf8.decode s e).1 : Int), ((Utf8.decode s e).2 : Int), Pl.good s e) := by unfold Pl.next; rw [if_pos (by omega), Int.toNat_natCast]
  rw [en, show Pl.good s e = true from decide_eq_true hok] at CN0
  have CN := Lib.hid CN0
  have COf := Lib.hid (fun w h => of_any ((Utf8.decode s e).1 : Int) w h)
  clear CN0 en
  have hfb : ((e : Int) == (s.size : Int)) = false := by rw [beq_eq_false_iff_ne]; omega
  have hok' := Lib.hid hok
  clear hok
  have HB0 := Aside0.mk (Below.refl w.heap.size w)
  have HCQ := Lib.hid hcq
  have HWH := Lib.hid hwh
  clear hwh hnt hws hwt hall hall2 he he2 hls hlt hwsb hwtb
  subst hcq
  have hA1 : decide ((2147483647 : Int) < c) = false := decide_eq_false (by omega)
  have hD1 : decide ((s.size : Int) < ((e : Nat) : Int)) = false := decide_eq_false (by omega)
  have hD1' : decide (s.size < e) = false := decide_eq_false (by omega)
  have hD2 : decide ((e2 : Int) < ((e : Nat) : Int)) = false := decide_eq_false (by omega)
  have hD2' : decide (e2 < e) = false := decide_eq_false (by omega)
  have hD3 : decide (n2 < n) = false := decide_eq_false (by omega)
  have hD4 : decide (n < (0 : Int)) = false := decide_eq_false (by omega)
  go_enter Tryd.func6, Tryd.ntmps6
  go_wp2_with (go_at_call 25; with_reducible refine (CW.out _ HU.out h6).mono ?_; rintro e' w1 ⟨rfl, hb⟩; have HB1 := Aside0.mk (HB0.out.trans (hb.mono HB0.out.size)); have HT1 := Lib.hid (HT.out.below HB1.out h2); have h21 := Lib.hid (Nat.le_trans h2 HB1.out.size); clear hb)
  go_wp2_with (go_at_call 23; with_reducible refine (CT3.out _ HT1.out h21.out).mono ?_; rintro e' w2 ⟨rfl, hb⟩; have HB2 := Aside0.mk (HB1.out.trans (hb.mono HB1.out.size)); have HT2 := Lib.hid (HT.out.below HB2.out h2); have h22 := Lib.hid (Nat.le_trans h2 HB2.out.size); clear hb)
  go_wp2_with (go_at_call 23; with_reducible refine (CT1.out _ HT2.out h22.out).mono ?_; rintro e' w3 ⟨rfl, hb⟩; have HB3 := Aside0.mk (HB2.out.trans (hb.mono HB2.out.size)); have HT3 := Lib.hid (HT.out.below HB3.out h2); have h23 := Lib.hid (Nat.le_trans h2 HB3.out.size); clear hb)
  go_wp2_with (go_at_call 23; with_reducible refine (CT2.out _ HT3.out h23.out).mono ?_; rintro e' w4 ⟨rfl, hb⟩; have HB4 := Aside0.mk (HB3.out.trans (hb.mono HB3.out.size)); have HT4 := Lib.hid (HT.out.below HB4.out h2); have h24 := Lib.hid (Nat.le_trans h2 HB4.out.size); clear hb)
  go_wp2_with (go_at_call 21; with_reducible refine (CC1.out _ HT4.out h24.out).mono ?_; rintro e' w5 ⟨rfl, hb⟩; have HB5 := Aside0.mk (HB4.out.trans (hb.mono HB4.out.size)); have HT5 := Lib.hid (HT.out.below HB5.out h2); have h25 := Lib.hid (Nat.le_trans h2 HB5.out.size); clear hb)
  go_wp2_with (go_at_call 21; with_reducible refine (CC2.out _ HT5.out h25.out).mono ?_; rintro e' w6 ⟨rfl, hb⟩; have HB6 := Aside0.mk (HB5.out.trans (hb.mono HB5.out.size)); have HT6 := Lib.hid (HT.out.below HB6.out h2); have h26 := Lib.hid (Nat.le_trans h2 HB6.out.size); clear hb)
  go_wp2_with (go_at_call 23; with_reducible refine (CT1.out _ HT6.out h26.out).mono ?_; rintro e' w7 ⟨rfl, hb⟩; have HB7 := Aside0.mk (HB6.out.trans (hb.mono HB6.out.size)); have HT7 := Lib.hid (HT.out.below HB7.out h2); have h27 := Lib.hid (Nat.le_trans h2 HB7.out.size); clear hb)
  go_wp2_with (go_at_call 21; with_reducible refine (CC3.out _ HT7.out h27.out).mono ?_; rintro e' w8 ⟨rfl, hb⟩; have HB8 := Aside0.mk (HB7.out.trans (hb.mono HB7.out.size)); have HT8 := Lib.hid (HT.out.below HB8.out h2); have h28 := Lib.hid (Nat.le_trans h2 HB8.out.size); clear hb)
  go_wp2_with (go_at_call 23; with_reducible refine (CT1.out _ HT8.out h28.out).mono ?_; rintro e' w9 ⟨rfl, hb⟩; have HB9 := Aside0.mk (HB8.out.trans (hb.mono HB8.out.size)); have HT9 := Lib.hid (HT.out.below HB9.out h2); have h29 := Lib.hid (Nat.le_trans h2 HB9.out.size); clear hb)
  go_wp2_with (go_at_call 23; with_reducible refine (CT4.out _ HT9.out h29.out).mono ?_; rintro e' w10 ⟨rfl, hb⟩; have HB10 := Aside0.mk (HB9.out.trans (hb.mono HB9.out.size)); have HT10 := Lib.hid (HT.out.below HB10.out h2); have h210 := Lib.hid (Nat.le_trans h2 HB10.out.size); clear hb)
  go_wp2_with (go_at_call 26; with_reducible refine (CN.out _).mono ?_; rintro e' w11 ⟨rfl, hb⟩; have HB11 := Aside0.mk (HB10.out.trans (hb.mono HB10.out.size)); have HT11 := Lib.hid (HT.out.below HB11.out h2); have h211 := Lib.hid (Nat.le_trans h2 HB11.out.size); clear hb)
  go_wp2_with (go_at_call 18; with_reducible refine (COf.out _ HT11.out).mono ?_; rintro e' w12 ⟨rfl, hb⟩; have HB12 := Aside0.mk (HB11.out.trans (hb.mono HB11.out.size)); have HT12 := Lib.hid (HT.out.below HB12.out h2); have h212 := Lib.hid (Nat.le_trans h2 HB12.out.size); clear hb)
  go_wp2_with (go_at_call 20; with_reducible refine (awake02 _ HT12.out h212.out).mono ?_; rintro e' w13 ⟨rfl, hb⟩; have HB13 := Aside0.mk (HB12.out.trans (hb.mono HB12.out.size)); have HT13 := Lib.hid (HT.out.below HB13.out h2); have h213 := Lib.hid (Nat.le_trans h2 HB13.out.size); clear hb)
  go_ret
  exact ⟨rfl, HB13.out⟩

set_option maxRecDepth 100000 in
set_option maxHeartbeats 2000000 in
theorem wc_pw_bad (s t : ByteArray) (q : Int) (m : Int) (w : World) (hs : s.size ≤ 268435455) (ht : t.size ≤ 268435455) (hq0 : -9223372036854775808 ≤ q) (hq1 : q ≤ 9223372036854775807) (hm0 : 0 ≤ m) (hm1 : m ≤ 255)
    (hA : q ≤ 2147483647) (hwh : Pl.whole s = s.size) (c : Int) (hcq : c = q) (hC : 0 ≤ c) (e e2 : Nat) (n n2 : Int) (he : Pl.cut s c = (e, n)) (he2 : Pl.cut s (c + m) = (e2, n2)) (hfull : e < s.size) (hok : ¬ Pl.ok s e)
    (hw : WTabs w) (hu : Lib.Utf8Tabs 4 5 w) :
    Calls Tryd.prog 6 #[.string s, .string t, .int .i64 q, .int .u8 m] w fun e w' => e = .returned (.bool true) ∧ Below w.heap.size w w' := by
  have h6 : 6 ≤ w.heap.size := World.block_lt_of_cell? w _ (hu.2 0 (by decide)).1
  have h2 : 2 ≤ w.heap.size := by omega
  have HU := Lib.hid hu
  have HT := Lib.hid hw
  clear hu hw
  have hc1 : c ≤ 2147483647 := by
    omega
  have hc0 : -9223372036854775808 ≤ c := by
    omega
  obtain ⟨ws, hws⟩ : ∃ x, Pl.wsum (Pl.pts (Pl.runes s 0)) = x := ⟨_, rfl⟩
  obtain ⟨wt, hwt⟩ : ∃ x, Pl.wsum (Pl.pts (Pl.runes t 0)) = x := ⟨_, rfl⟩
  have hls := Pl.runes_length s s.size 0 (by omega)
  have hlt := Pl.runes_length t t.size 0 (by omega)
  have hwsb : 0 ≤ ws ∧ ws ≤ 536870910 := by
    rw [← hws]
    have h1 := wsum_nonneg (Pl.pts (Pl.runes s 0)); have h2 := wsum_le (Pl.pts (Pl.runes s 0))
    rw [Pl.pts, List.length_map] at h2
    unfold Pl.pts at h1 ⊢
    omega
  have hwtb : 0 ≤ wt ∧ wt ≤ 536870910 := by
    rw [← hwt]
    have h1 := wsum_nonneg (Pl.pts (Pl.runes t 0)); have h2 := wsum_le (Pl.pts (Pl.runes t 0))
    rw [Pl.pts, List.length_map] at h2
    unfold Pl.pts at h1 ⊢
    omega
  have hw0 := hwsb.1; have hw1 := hwsb.2; have hv0 := hwtb.1; have hv1 := hwtb.2
  have hall := cut_said s ws hw0
  have hall2 : Pl.cut s ws = (s.size, ws) := by
    rw [← hws] at hall ⊢
    have := cut_all_said hall
    exact Prod.ext this.1 this.2
  have hd := cut_said s c hC
  rw [he] at hd
  have hd2 := cut_said s (c + m) (by omega)
  rw [he2] at hd2
  have hw12 := cut_wider hd hd2 (by omega)
  have hee : e ≤ e2 := hw12.1
  have hnn : n ≤ n2 := hw12.2
  have hes2 : e2 ≤ s.size := cut_in hd2
  have hes : e ≤ s.size := cut_in hd
  have hnt : n = Pl.wsum (Pl.pts (Pl.runes (s.extract 0 e) 0)) := cut_text hd
  have hn0 : 0 ≤ n := by rw [hnt]; exact wsum_nonneg _
  have hnc : n ≤ c := hd.le
  have hgt : n + Pl.widthOf ((Utf8.decode s e).1 : Int) > c := hd.full hfull
  have hwb := Pl.widthOf_bd ((Utf8.decode s e).1 : Int)
  have hpt := i64_dec s e hfull
  clear hd hd2 hw12
  have hsz : (s.extract 0 e).size = e := size_cut s e hes
  have hbb : (s.extract 0 e2).extract 0 e = s.extract 0 e := cut_both hee hes2
  have hsz2 : (s.extract 0 e2).size = e2 := size_cut s e2 hes2
  have hsall : s.extract 0 s.size = s := extract_all s
  have CW := Lib.hid (fun w h => whole_any s w (by omega) h)
  have CT1 := Lib.hid (fun w h h2 => wtext_any s w (by omega) h h2)
  have CT2 := Lib.hid (fun w h h2 => wtext_any t w (by omega) h h2)
  have CT4 := Lib.hid (fun w h h2 => wtext_any (s.extract 0 e) w (by rw [size_cut s e hes]; omega) h h2)
  have CC1 := Lib.hid (fun w h h2 => cut_calls s c w (by omega) (by omega) h h2)
  have CC2 := Lib.hid (fun w h h2 => cut_calls s (c + m) w (by omega) (by omega) h h2)
  have CC3 := Lib.hid (fun w h h2 => cut_calls s ws w (by omega) (by omega) h h2)
  rw [he] at CC1
  rw [he2] at CC2
  rw [hall2, hsall] at CC3
  rw [hws] at CT1
  rw [hwt] at CT2
  rw [← hnt] at CT4
  have hjoin : Pl.wsum (Pl.pts (Pl.runes (s ++ t) 0)) = ws + wt := by rw [pts_both s t hwh, wsum_append, hws, hwt]
  have CT3 := Lib.hid (fun w h h2 => wtext_any (s ++ t) w (by rw [ByteArray.size_append]; omega) h h2)
  rw [hjoin] at CT3
  clear hjoin
  have hwb1 : ((Pl.whole s : Int) == (s.size : Int)) = true := by rw [beq_iff_eq]; omega
  have CN0 : ∀ w, _ := fun w => next_any s (e : Int) w (by omega)
  have en : Pl.next s (e : Int) = (((Utf8.decode s e).1 : Int), ((Utf8.decode s e).2 : Int), Pl.good s e) := by unfold Pl.next; rw [if_pos (by omega), Int.toNat_natCast]
  rw [en, show Pl.good s e = false from decide_eq_false hok] at CN0
  have CN := Lib.hid CN0
  have COf := Lib.hid (fun w h => of_any ((Utf8.decode s e).1 : Int) w h)
  clear CN0 en
  have hb3 := (Pl.bad_iff s e hfull).2 hok
  have hrb : (((Utf8.decode s e).1 : Int) != 65533) = false := by rw [bne_eq_false_iff_eq]; omega
  have hnb : (((Utf8.decode s e).2 : Int) != 1) = false := by rw [bne_eq_false_iff_eq]; omega
  clear hb3
  have hfb : ((e : Int) == (s.size : Int)) = false := by rw [beq_eq_false_iff_ne]; omega
  have hok' := Lib.hid hok
  clear hok
  have HB0 := Aside0.mk (Below.refl w.heap.size w)
  have HCQ := Lib.hid hcq
  have HWH := Lib.hid hwh
  clear hwh hnt hws hwt hall hall2 he he2 hls hlt hwsb hwtb
  subst hcq
  have hA1 : decide ((2147483647 : Int) < c) = false := decide_eq_false (by omega)
  have hD1 : decide ((s.size : Int) < ((e : Nat) : Int)) = false := decide_eq_false (by omega)
  have hD1' : decide (s.size < e) = false := decide_eq_false (by omega)
  have hD2 : decide ((e2 : Int) < ((e : Nat) : Int)) = false := decide_eq_false (by omega)
  have hD2' : decide (e2 < e) = false := decide_eq_false (by omega)
  have hD3 : decide (n2 < n) = false := decide_eq_false (by omega)
  have hD4 : decide (n < (0 : Int)) = false := decide_eq_false (by omega)
  go_enter Tryd.func6, Tryd.ntmps6
  go_wp2_with (go_at_call 25; with_reducible refine (CW.out _ HU.out h6).mono ?_; rintro e' w1 ⟨rfl, hb⟩; have HB1 := Aside0.mk (HB0.out.trans (hb.mono HB0.out.size)); have HT1 := Lib.hid (HT.out.below HB1.out h2); have h21 := Lib.hid (Nat.le_trans h2 HB1.out.size); clear hb)
  go_wp2_with (go_at_call 23; with_reducible refine (CT3.out _ HT1.out h21.out).mono ?_; rintro e' w2 ⟨rfl, hb⟩; have HB2 := Aside0.mk (HB1.out.trans (hb.mono HB1.out.size)); have HT2 := Lib.hid (HT.out.below HB2.out h2); have h22 := Lib.hid (Nat.le_trans h2 HB2.out.size); clear hb)
  go_wp2_with (go_at_call 23; with_reducible refine (CT1.out _ HT2.out h22.out).mono ?_; rintro e' w3 ⟨rfl, hb⟩; have HB3 := Aside0.mk (HB2.out.trans (hb.mono HB2.out.size)); have HT3 := Lib.hid (HT.out.below HB3.out h2); have h23 := Lib.hid (Nat.le_trans h2 HB3.out.size); clear hb)
  go_wp2_with (go_at_call 23; with_reducible refine (CT2.out _ HT3.out h23.out).mono ?_; rintro e' w4 ⟨rfl, hb⟩; have HB4 := Aside0.mk (HB3.out.trans (hb.mono HB3.out.size)); have HT4 := Lib.hid (HT.out.below HB4.out h2); have h24 := Lib.hid (Nat.le_trans h2 HB4.out.size); clear hb)
  go_wp2_with (go_at_call 21; with_reducible refine (CC1.out _ HT4.out h24.out).mono ?_; rintro e' w5 ⟨rfl, hb⟩; have HB5 := Aside0.mk (HB4.out.trans (hb.mono HB4.out.size)); have HT5 := Lib.hid (HT.out.below HB5.out h2); have h25 := Lib.hid (Nat.le_trans h2 HB5.out.size); clear hb)
  go_wp2_with (go_at_call 21; with_reducible refine (CC2.out _ HT5.out h25.out).mono ?_; rintro e' w6 ⟨rfl, hb⟩; have HB6 := Aside0.mk (HB5.out.trans (hb.mono HB5.out.size)); have HT6 := Lib.hid (HT.out.below HB6.out h2); have h26 := Lib.hid (Nat.le_trans h2 HB6.out.size); clear hb)
  go_wp2_with (go_at_call 23; with_reducible refine (CT1.out _ HT6.out h26.out).mono ?_; rintro e' w7 ⟨rfl, hb⟩; have HB7 := Aside0.mk (HB6.out.trans (hb.mono HB6.out.size)); have HT7 := Lib.hid (HT.out.below HB7.out h2); have h27 := Lib.hid (Nat.le_trans h2 HB7.out.size); clear hb)
  go_wp2_with (go_at_call 21; with_reducible refine (CC3.out _ HT7.out h27.out).mono ?_; rintro e' w8 ⟨rfl, hb⟩; have HB8 := Aside0.mk (HB7.out.trans (hb.mono HB7.out.size)); have HT8 := Lib.hid (HT.out.below HB8.out h2); have h28 := Lib.hid (Nat.le_trans h2 HB8.out.size); clear hb)
  go_wp2_with (go_at_call 23; with_reducible refine (CT1.out _ HT8.out h28.out).mono ?_; rintro e' w9 ⟨rfl, hb⟩; have HB9 := Aside0.mk (HB8.out.trans (hb.mono HB8.out.size)); have HT9 := Lib.hid (HT.out.below HB9.out h2); have h29 := Lib.hid (Nat.le_trans h2 HB9.out.size); clear hb)
  go_wp2_with (go_at_call 23; with_reducible refine (CT4.out _ HT9.out h29.out).mono ?_; rintro e' w10 ⟨rfl, hb⟩; have HB10 := Aside0.mk (HB9.out.trans (hb.mono HB9.out.size)); have HT10 := Lib.hid (HT.out.below HB10.out h2); have h210 := Lib.hid (Nat.le_trans h2 HB10.out.size); clear hb)
  go_wp2_with (go_at_call 26; with_reducible refine (CN.out _).mono ?_; rintro e' w11 ⟨rfl, hb⟩; have HB11 := Aside0.mk (HB10.out.trans (hb.mono HB10.out.size)); have HT11 := Lib.hid (HT.out.below HB11.out h2); have h211 := Lib.hid (Nat.le_trans h2 HB11.out.size); clear hb)
  go_wp2_with (go_at_call 18; with_reducible refine (COf.out _ HT11.out).mono ?_; rintro e' w12 ⟨rfl, hb⟩; have HB12 := Aside0.mk (HB11.out.trans (hb.mono HB11.out.size)); have HT12 := Lib.hid (HT.out.below HB12.out h2); have h212 := Lib.hid (Nat.le_trans h2 HB12.out.size); clear hb)
  go_wp2_with (go_at_call 20; with_reducible refine (awake02 _ HT12.out h212.out).mono ?_; rintro e' w13 ⟨rfl, hb⟩; have HB13 := Aside0.mk (HB12.out.trans (hb.mono HB12.out.size)); have HT13 := Lib.hid (HT.out.below HB13.out h2); have h213 := Lib.hid (Nat.le_trans h2 HB13.out.size); clear hb)
  go_ret
  exact ⟨rfl, HB13.out⟩

set_option maxRecDepth 100000 in
set_option maxHeartbeats 2000000 in
theorem wc_po_neg (s t : ByteArray) (q : Int) (m : Int) (w : World) (hs : s.size ≤ 268435455) (ht : t.size ≤ 268435455) (hq0 : -9223372036854775808 ≤ q) (hq1 : q ≤ 9223372036854775807) (hm0 : 0 ≤ m) (hm1 : m ≤ 255)
    (hA : q ≤ 2147483647) (hwh : ¬ Pl.whole s = s.size) (c : Int) (hcq : c = q) (hC : c < 0) (e e2 : Nat) (n n2 : Int) (he : Pl.cut s c = (e, n)) (he2 : Pl.cut s (c + m) = (e2, n2))
    (hw : WTabs w) (hu : Lib.Utf8Tabs 4 5 w) :
    Calls Tryd.prog 6 #[.string s, .string t, .int .i64 q, .int .u8 m] w fun e w' => e = .returned (.bool true) ∧ Below w.heap.size w w' := by
  have h6 : 6 ≤ w.heap.size := World.block_lt_of_cell? w _ (hu.2 0 (by decide)).1
  have h2 : 2 ≤ w.heap.size := by omega
  have HU := Lib.hid hu
  have HT := Lib.hid hw
  clear hu hw
  have hc1 : c ≤ 2147483647 := by
    omega
  have hc0 : -9223372036854775808 ≤ c := by
    omega
  obtain ⟨ws, hws⟩ : ∃ x, Pl.wsum (Pl.pts (Pl.runes s 0)) = x := ⟨_, rfl⟩
  obtain ⟨wt, hwt⟩ : ∃ x, Pl.wsum (Pl.pts (Pl.runes t 0)) = x := ⟨_, rfl⟩
  have hls := Pl.runes_length s s.size 0 (by omega)
  have hlt := Pl.runes_length t t.size 0 (by omega)
  have hwsb : 0 ≤ ws ∧ ws ≤ 536870910 := by
    rw [← hws]
    have h1 := wsum_nonneg (Pl.pts (Pl.runes s 0)); have h2 := wsum_le (Pl.pts (Pl.runes s 0))
    rw [Pl.pts, List.length_map] at h2
    unfold Pl.pts at h1 ⊢
    omega
  have hwtb : 0 ≤ wt ∧ wt ≤ 536870910 := by
    rw [← hwt]
    have h1 := wsum_nonneg (Pl.pts (Pl.runes t 0)); have h2 := wsum_le (Pl.pts (Pl.runes t 0))
    rw [Pl.pts, List.length_map] at h2
    unfold Pl.pts at h1 ⊢
    omega
  have hw0 := hwsb.1; have hw1 := hwsb.2; have hv0 := hwtb.1; have hv1 := hwtb.2
  have hall := cut_said s ws hw0
  have hall2 : Pl.cut s ws = (s.size, ws) := by
    rw [← hws] at hall ⊢
    have := cut_all_said hall
    exact Prod.ext this.1 this.2
  have hlow := cut_low s c hC
  rw [he] at hlow
  obtain ⟨rfl, rfl⟩ : e = 0 ∧ n = 0 := ⟨congrArg Prod.fst hlow, congrArg Prod.snd hlow⟩
  have hx2 : e2 ≤ s.size ∧ 0 ≤ n2 := by
    by_cases h0 : c + m < 0
    · have := cut_low s _ h0
      rw [he2] at this
      have h1 : e2 = 0 := congrArg Prod.fst this
      have h3 : n2 = 0 := congrArg Prod.snd this
      omega
    · have hd := cut_said s _ (show 0 ≤ c + m by omega)
      rw [he2] at hd
      have h1 := cut_in hd
      have h3 := cut_text hd
      have h4 := wsum_nonneg (Pl.pts (Pl.runes (s.extract 0 e2) 0))
      have h5 : n2 = Pl.wsum (Pl.pts (Pl.runes (s.extract 0 e2) 0)) := h3
      exact ⟨h1, by rw [h5]; exact h4⟩
  have hee : 0 ≤ e2 := Nat.zero_le _
  have hes2 : e2 ≤ s.size := hx2.1
  have hnn : (0 : Int) ≤ n2 := hx2.2
  have hes : 0 ≤ s.size := Nat.zero_le _
  have hnt : (0 : Int) = Pl.wsum (Pl.pts (Pl.runes ByteArray.empty 0)) := rfl
  have hn0 : (0 : Int) ≤ 0 := Int.le_refl _
  have hz0 : ByteArray.empty.toList = [] := by rw [ByteArray.toList_eq]; rfl
  have hz1 : ByteArray.empty.toList.isEmpty = true := by rw [hz0]; rfl
  have hsz2 : (s.extract 0 e2).size = e2 := size_cut s e2 hes2
  have hsall : s.extract 0 s.size = s := extract_all s
  have CW := Lib.hid (fun w h => whole_any s w (by omega) h)
  have CT1 := Lib.hid (fun w h h2 => wtext_any s w (by omega) h h2)
  have CT2 := Lib.hid (fun w h h2 => wtext_any t w (by omega) h h2)
  have CT4 := Lib.hid (fun w h h2 => wtext_any ByteArray.empty w (by decide) h h2)
  have CC1 := Lib.hid (fun w h h2 => cut_calls s c w (by omega) (by omega) h h2)
  have CC2 := Lib.hid (fun w h h2 => cut_calls s (c + m) w (by omega) (by omega) h h2)
  have CC3 := Lib.hid (fun w h h2 => cut_calls s ws w (by omega) (by omega) h h2)
  rw [he] at CC1
  rw [he2] at CC2
  rw [hall2, hsall] at CC3
  rw [hws] at CT1
  rw [hwt] at CT2
  rw [← hnt] at CT4
  have hwb1 : ((Pl.whole s : Int) == (s.size : Int)) = false := by rw [beq_eq_false_iff_ne]; omega
  have HB0 := Aside0.mk (Below.refl w.heap.size w)
  have HCQ := Lib.hid hcq
  have HWH := Lib.hid hwh
  clear hwh hnt hws hwt hall hall2 he he2 hls hlt hwsb hwtb hlow hx2
  subst hcq
  have hA1 : decide ((2147483647 : Int) < c) = false := decide_eq_false (by omega)
  have hD1 : decide ((s.size : Int) < ((0 : Nat) : Int)) = false := decide_eq_false (by omega)
  have hD1' : decide (s.size < 0) = false := decide_eq_false (by omega)
  have hD2 : decide ((e2 : Int) < ((0 : Nat) : Int)) = false := decide_eq_false (by omega)
  have hD2' : decide (e2 < 0) = false := decide_eq_false (by omega)
  have hD3 : decide (n2 < 0) = false := decide_eq_false (by omega)
  have hD4 : decide (0 < (0 : Int)) = false := decide_eq_false (by omega)
  go_enter Tryd.func6, Tryd.ntmps6
  go_wp2_with (go_at_call 25; with_reducible refine (CW.out _ HU.out h6).mono ?_; rintro e' w1 ⟨rfl, hb⟩; have HB1 := Aside0.mk (HB0.out.trans (hb.mono HB0.out.size)); have HT1 := Lib.hid (HT.out.below HB1.out h2); have h21 := Lib.hid (Nat.le_trans h2 HB1.out.size); clear hb)
  go_wp2_with (go_at_call 21; with_reducible refine (CC1.out _ HT1.out h21.out).mono ?_; rintro e' w2 ⟨rfl, hb⟩; have HB2 := Aside0.mk (HB1.out.trans (hb.mono HB1.out.size)); have HT2 := Lib.hid (HT.out.below HB2.out h2); have h22 := Lib.hid (Nat.le_trans h2 HB2.out.size); clear hb)
  go_wp2_with (go_at_call 21; with_reducible refine (CC2.out _ HT2.out h22.out).mono ?_; rintro e' w3 ⟨rfl, hb⟩; have HB3 := Aside0.mk (HB2.out.trans (hb.mono HB2.out.size)); have HT3 := Lib.hid (HT.out.below HB3.out h2); have h23 := Lib.hid (Nat.le_trans h2 HB3.out.size); clear hb)
  go_wp2_with (go_at_call 23; with_reducible refine (CT1.out _ HT3.out h23.out).mono ?_; rintro e' w4 ⟨rfl, hb⟩; have HB4 := Aside0.mk (HB3.out.trans (hb.mono HB3.out.size)); have HT4 := Lib.hid (HT.out.below HB4.out h2); have h24 := Lib.hid (Nat.le_trans h2 HB4.out.size); clear hb)
  go_wp2_with (go_at_call 21; with_reducible refine (CC3.out _ HT4.out h24.out).mono ?_; rintro e' w5 ⟨rfl, hb⟩; have HB5 := Aside0.mk (HB4.out.trans (hb.mono HB4.out.size)); have HT5 := Lib.hid (HT.out.below HB5.out h2); have h25 := Lib.hid (Nat.le_trans h2 HB5.out.size); clear hb)
  go_wp2_with (go_at_call 23; with_reducible refine (CT1.out _ HT5.out h25.out).mono ?_; rintro e' w6 ⟨rfl, hb⟩; have HB6 := Aside0.mk (HB5.out.trans (hb.mono HB5.out.size)); have HT6 := Lib.hid (HT.out.below HB6.out h2); have h26 := Lib.hid (Nat.le_trans h2 HB6.out.size); clear hb)
  go_wp2_with (go_at_call 23; with_reducible refine (CT4.out _ HT6.out h26.out).mono ?_; rintro e' w7 ⟨rfl, hb⟩; have HB7 := Aside0.mk (HB6.out.trans (hb.mono HB6.out.size)); have HT7 := Lib.hid (HT.out.below HB7.out h2); have h27 := Lib.hid (Nat.le_trans h2 HB7.out.size); clear hb)
  go_wp2_with (go_at_call 20; with_reducible refine (awake02 _ HT7.out h27.out).mono ?_; rintro e' w8 ⟨rfl, hb⟩; have HB8 := Aside0.mk (HB7.out.trans (hb.mono HB7.out.size)); have HT8 := Lib.hid (HT.out.below HB8.out h2); have h28 := Lib.hid (Nat.le_trans h2 HB8.out.size); clear hb)
  go_ret
  exact ⟨rfl, HB8.out⟩

set_option maxRecDepth 100000 in
set_option maxHeartbeats 2000000 in
theorem wc_po_all (s t : ByteArray) (q : Int) (m : Int) (w : World) (hs : s.size ≤ 268435455) (ht : t.size ≤ 268435455) (hq0 : -9223372036854775808 ≤ q) (hq1 : q ≤ 9223372036854775807) (hm0 : 0 ≤ m) (hm1 : m ≤ 255)
    (hA : q ≤ 2147483647) (hwh : ¬ Pl.whole s = s.size) (c : Int) (hcq : c = q) (hC : 0 ≤ c) (e e2 : Nat) (n n2 : Int) (he : Pl.cut s c = (e, n)) (he2 : Pl.cut s (c + m) = (e2, n2)) (hfull : e = s.size)
    (hw : WTabs w) (hu : Lib.Utf8Tabs 4 5 w) :
    Calls Tryd.prog 6 #[.string s, .string t, .int .i64 q, .int .u8 m] w fun e w' => e = .returned (.bool true) ∧ Below w.heap.size w w' := by
  have h6 : 6 ≤ w.heap.size := World.block_lt_of_cell? w _ (hu.2 0 (by decide)).1
  have h2 : 2 ≤ w.heap.size := by omega
  have HU := Lib.hid hu
  have HT := Lib.hid hw
  clear hu hw
  have hc1 : c ≤ 2147483647 := by
    omega
  have hc0 : -9223372036854775808 ≤ c := by
    omega
  obtain ⟨ws, hws⟩ : ∃ x, Pl.wsum (Pl.pts (Pl.runes s 0)) = x := ⟨_, rfl⟩
  obtain ⟨wt, hwt⟩ : ∃ x, Pl.wsum (Pl.pts (Pl.runes t 0)) = x := ⟨_, rfl⟩
  have hls := Pl.runes_length s s.size 0 (by omega)
  have hlt := Pl.runes_length t t.size 0 (by omega)
  have hwsb : 0 ≤ ws ∧ ws ≤ 536870910 := by
    rw [← hws]
    have h1 := wsum_nonneg (Pl.pts (Pl.runes s 0)); have h2 := wsum_le (Pl.pts (Pl.runes s 0))
    rw [Pl.pts, List.length_map] at h2
    unfold Pl.pts at h1 ⊢
    omega
  have hwtb : 0 ≤ wt ∧ wt ≤ 536870910 := by
    rw [← hwt]
    have h1 := wsum_nonneg (Pl.pts (Pl.runes t 0)); have h2 := wsum_le (Pl.pts (Pl.runes t 0))
    rw [Pl.pts, List.length_map] at h2
    unfold Pl.pts at h1 ⊢
    omega
  have hw0 := hwsb.1; have hw1 := hwsb.2; have hv0 := hwtb.1; have hv1 := hwtb.2
  have hall := cut_said s ws hw0
  have hall2 : Pl.cut s ws = (s.size, ws) := by
    rw [← hws] at hall ⊢
    have := cut_all_said hall
    exact Prod.ext this.1 this.2
  have hd := cut_said s c hC
  rw [he] at hd
  have hd2 := cut_said s (c + m) (by omega)
  rw [he2] at hd2
  have hw12 := cut_wider hd hd2 (by omega)
  have hee : e ≤ e2 := hw12.1
  have hnn : n ≤ n2 := hw12.2
  have hes2 : e2 ≤ s.size := cut_in hd2
  have hes : e ≤ s.size := cut_in hd
  have hnt : n = Pl.wsum (Pl.pts (Pl.runes (s.extract 0 e) 0)) := cut_text hd
  have hn0 : 0 ≤ n := by rw [hnt]; exact wsum_nonneg _
  have hnc : n ≤ c := hd.le
  clear hd hd2 hw12
  have hsz : (s.extract 0 e).size = e := size_cut s e hes
  have hbb : (s.extract 0 e2).extract 0 e = s.extract 0 e := cut_both hee hes2
  have hsz2 : (s.extract 0 e2).size = e2 := size_cut s e2 hes2
  have hsall : s.extract 0 s.size = s := extract_all s
  have CW := Lib.hid (fun w h => whole_any s w (by omega) h)
  have CT1 := Lib.hid (fun w h h2 => wtext_any s w (by omega) h h2)
  have CT2 := Lib.hid (fun w h h2 => wtext_any t w (by omega) h h2)
  have CT4 := Lib.hid (fun w h h2 => wtext_any (s.extract 0 e) w (by rw [size_cut s e hes]; omega) h h2)
  have CC1 := Lib.hid (fun w h h2 => cut_calls s c w (by omega) (by omega) h h2)
  have CC2 := Lib.hid (fun w h h2 => cut_calls s (c + m) w (by omega) (by omega) h h2)
  have CC3 := Lib.hid (fun w h h2 => cut_calls s ws w (by omega) (by omega) h h2)
  rw [he] at CC1
  rw [he2] at CC2
  rw [hall2, hsall] at CC3
  rw [hws] at CT1
  rw [hwt] at CT2
  rw [← hnt] at CT4
  have hwb1 : ((Pl.whole s : Int) == (s.size : Int)) = false := by rw [beq_eq_false_iff_ne]; omega
  have hfb : ((e : Int) == (s.size : Int)) = true := by rw [beq_iff_eq]; omega
  have HB0 := Aside0.mk (Below.refl w.heap.size w)
  have HCQ := Lib.hid hcq
  have HWH := Lib.hid hwh
  clear hwh hnt hws hwt hall hall2 he he2 hls hlt hwsb hwtb hfull
  subst hcq
  have hA1 : decide ((2147483647 : Int) < c) = false := decide_eq_false (by omega)
  have hD1 : decide ((s.size : Int) < ((e : Nat) : Int)) = false := decide_eq_false (by omega)
  have hD1' : decide (s.size < e) = false := decide_eq_false (by omega)
  have hD2 : decide ((e2 : Int) < ((e : Nat) : Int)) = false := decide_eq_false (by omega)
  have hD2' : decide (e2 < e) = false := decide_eq_false (by omega)
  have hD3 : decide (n2 < n) = false := decide_eq_false (by omega)
  have hD4 : decide (n < (0 : Int)) = false := decide_eq_false (by omega)
  go_enter Tryd.func6, Tryd.ntmps6
  go_wp2_with (go_at_call 25; with_reducible refine (CW.out _ HU.out h6).mono ?_; rintro e' w1 ⟨rfl, hb⟩; have HB1 := Aside0.mk (HB0.out.trans (hb.mono HB0.out.size)); have HT1 := Lib.hid (HT.out.below HB1.out h2); have h21 := Lib.hid (Nat.le_trans h2 HB1.out.size); clear hb)
  go_wp2_with (go_at_call 21; with_reducible refine (CC1.out _ HT1.out h21.out).mono ?_; rintro e' w2 ⟨rfl, hb⟩; have HB2 := Aside0.mk (HB1.out.trans (hb.mono HB1.out.size)); have HT2 := Lib.hid (HT.out.below HB2.out h2); have h22 := Lib.hid (Nat.le_trans h2 HB2.out.size); clear hb)
  go_wp2_with (go_at_call 21; with_reducible refine (CC2.out _ HT2.out h22.out).mono ?_; rintro e' w3 ⟨rfl, hb⟩; have HB3 := Aside0.mk (HB2.out.trans (hb.mono HB2.out.size)); have HT3 := Lib.hid (HT.out.below HB3.out h2); have h23 := Lib.hid (Nat.le_trans h2 HB3.out.size); clear hb)
  go_wp2_with (go_at_call 23; with_reducible refine (CT1.out _ HT3.out h23.out).mono ?_; rintro e' w4 ⟨rfl, hb⟩; have HB4 := Aside0.mk (HB3.out.trans (hb.mono HB3.out.size)); have HT4 := Lib.hid (HT.out.below HB4.out h2); have h24 := Lib.hid (Nat.le_trans h2 HB4.out.size); clear hb)
  go_wp2_with (go_at_call 21; with_reducible refine (CC3.out _ HT4.out h24.out).mono ?_; rintro e' w5 ⟨rfl, hb⟩; have HB5 := Aside0.mk (HB4.out.trans (hb.mono HB4.out.size)); have HT5 := Lib.hid (HT.out.below HB5.out h2); have h25 := Lib.hid (Nat.le_trans h2 HB5.out.size); clear hb)
  go_wp2_with (go_at_call 23; with_reducible refine (CT1.out _ HT5.out h25.out).mono ?_; rintro e' w6 ⟨rfl, hb⟩; have HB6 := Aside0.mk (HB5.out.trans (hb.mono HB5.out.size)); have HT6 := Lib.hid (HT.out.below HB6.out h2); have h26 := Lib.hid (Nat.le_trans h2 HB6.out.size); clear hb)
  go_wp2_with (go_at_call 23; with_reducible refine (CT4.out _ HT6.out h26.out).mono ?_; rintro e' w7 ⟨rfl, hb⟩; have HB7 := Aside0.mk (HB6.out.trans (hb.mono HB6.out.size)); have HT7 := Lib.hid (HT.out.below HB7.out h2); have h27 := Lib.hid (Nat.le_trans h2 HB7.out.size); clear hb)
  go_wp2_with (go_at_call 20; with_reducible refine (awake02 _ HT7.out h27.out).mono ?_; rintro e' w8 ⟨rfl, hb⟩; have HB8 := Aside0.mk (HB7.out.trans (hb.mono HB7.out.size)); have HT8 := Lib.hid (HT.out.below HB8.out h2); have h28 := Lib.hid (Nat.le_trans h2 HB8.out.size); clear hb)
  go_ret
  exact ⟨rfl, HB8.out⟩

set_option maxRecDepth 100000 in
set_option maxHeartbeats 2000000 in
theorem wc_po_good (s t : ByteArray) (q : Int) (m : Int) (w : World) (hs : s.size ≤ 268435455) (ht : t.size ≤ 268435455) (hq0 : -9223372036854775808 ≤ q) (hq1 : q ≤ 9223372036854775807) (hm0 : 0 ≤ m) (hm1 : m ≤ 255)
    (hA : q ≤ 2147483647) (hwh : ¬ Pl.whole s = s.size) (c : Int) (hcq : c = q) (hC : 0 ≤ c) (e e2 : Nat) (n n2 : Int) (he : Pl.cut s c = (e, n)) (he2 : Pl.cut s (c + m) = (e2, n2)) (hfull : e < s.size) (hok : Pl.ok s e)
    (hw : WTabs w) (hu : Lib.Utf8Tabs 4 5 w) :
    Calls Tryd.prog 6 #[.string s, .string t, .int .i64 q, .int .u8 m] w fun e w' => e = .returned (.bool true) ∧ Below w.heap.size w w' := by
  have h6 : 6 ≤ w.heap.size := World.block_lt_of_cell? w _ (hu.2 0 (by decide)).1
  have h2 : 2 ≤ w.heap.size := by omega
  have HU := Lib.hid hu
  have HT := Lib.hid hw
  clear hu hw
  have hc1 : c ≤ 2147483647 := by
    omega
  have hc0 : -9223372036854775808 ≤ c := by
    omega
  obtain ⟨ws, hws⟩ : ∃ x, Pl.wsum (Pl.pts (Pl.runes s 0)) = x := ⟨_, rfl⟩
  obtain ⟨wt, hwt⟩ : ∃ x, Pl.wsum (Pl.pts (Pl.runes t 0)) = x := ⟨_, rfl⟩
  have hls := Pl.runes_length s s.size 0 (by omega)
  have hlt := Pl.runes_length t t.size 0 (by omega)
  have hwsb : 0 ≤ ws ∧ ws ≤ 536870910 := by
    rw [← hws]
    have h1 := wsum_nonneg (Pl.pts (Pl.runes s 0)); have h2 := wsum_le (Pl.pts (Pl.runes s 0))
    rw [Pl.pts, List.length_map] at h2
    unfold Pl.pts at h1 ⊢
    omega
  have hwtb : 0 ≤ wt ∧ wt ≤ 536870910 := by
    rw [← hwt]
    have h1 := wsum_nonneg (Pl.pts (Pl.runes t 0)); have h2 := wsum_le (Pl.pts (Pl.runes t 0))
    rw [Pl.pts, List.length_map] at h2
    unfold Pl.pts at h1 ⊢
    omega
  have hw0 := hwsb.1; have hw1 := hwsb.2; have hv0 := hwtb.1; have hv1 := hwtb.2
  have hall := cut_said s ws hw0
  have hall2 : Pl.cut s ws = (s.size, ws) := by
    rw [← hws] at hall ⊢
    have := cut_all_said hall
    exact Prod.ext this.1 this.2
  have hd := cut_said s c hC
  rw [he] at hd
  have hd2 := cut_said s (c + m) (by omega)
  rw [he2] at hd2
  have hw12 := cut_wider hd hd2 (by omega)
  have hee : e ≤ e2 := hw12.1
  have hnn : n ≤ n2 := hw12.2
  have hes2 : e2 ≤ s.size := cut_in hd2
  have hes : e ≤ s.size := cut_in hd
  have hnt : n = Pl.wsum (Pl.pts (Pl.runes (s.extract 0 e) 0)) := cut_text hd
  have hn0 : 0 ≤ n := by rw [hnt]; exact wsum_nonneg _
  have hnc : n ≤ c := hd.le
  have hgt : n + Pl.widthOf ((Utf8.decode s e).1 : Int) > c := hd.full hfull
  have hwb := Pl.widthOf_bd ((Utf8.decode s e).1 : Int)
  have hpt := i64_dec s e hfull
  clear hd hd2 hw12
  have hsz : (s.extract 0 e).size = e := size_cut s e hes
  have hbb : (s.extract 0 e2).extract 0 e = s.extract 0 e := cut_both hee hes2
  have hsz2 : (s.extract 0 e2).size = e2 := size_cut s e2 hes2
  have hsall : s.extract 0 s.size = s := extract_all s
  have CW := Lib.hid (fun w h => whole_any s w (by omega) h)
  have CT1 := Lib.hid (fun w h h2 => wtext_any s w (by omega) h h2)
  have CT2 := Lib.hid (fun w h h2 => wtext_any t w (by omega) h h2)
  have CT4 := Lib.hid (fun w h h2 => wtext_any (s.extract 0 e) w (by rw [size_cut s e hes]; omega) h h2)
  have CC1 := Lib.hid (fun w h h2 => cut_calls s c w (by omega) (by omega) h h2)
  have CC2 := Lib.hid (fun w h h2 => cut_calls s (c + m) w (by omega) (by omega) h h2)
  have CC3 := Lib.hid (fun w h h2 => cut_calls s ws w (by omega) (by omega) h h2)
  rw [he] at CC1
  rw [he2] at CC2
  rw [hall2, hsall] at CC3
  rw [hws] at CT1
  rw [hwt] at CT2
  rw [← hnt] at CT4
  have hwb1 : ((Pl.whole s : Int) == (s.size : Int)) = false := by rw [beq_eq_false_iff_ne]; omega
  have CN0 : ∀ w, _ := fun w => next_any s (e : Int) w (by omega)
  have en : Pl.next s (e : Int) = (((Utf8.decode s e).1 : Int), ((Utf8.decode s e).2 : Int), Pl.good s e) := by unfold Pl.next; rw [if_pos (by omega), Int.toNat_natCast]
  rw [en, show Pl.good s e = true from decide_eq_true hok] at CN0
  have CN := Lib.hid CN0
  have COf := Lib.hid (fun w h => of_any ((Utf8.decode s e).1 : Int) w h)
  clear CN0 en
  have hfb : ((e : Int) == (s.size : Int)) = false := by rw [beq_eq_false_iff_ne]; omega
  have hok' := Lib.hid hok
  clear hok
  have HB0 := Aside0.mk (Below.refl w.heap.size w)
  have HCQ := Lib.hid hcq
  have HWH := Lib.hid hwh
  clear hwh hnt hws hwt hall hall2 he he2 hls hlt hwsb hwtb
  subst hcq
  have hA1 : decide ((2147483647 : Int) < c) = false := decide_eq_false (by omega)
  have hD1 : decide ((s.size : Int) < ((e : Nat) : Int)) = false := decide_eq_false (by omega)
  have hD1' : decide (s.size < e) = false := decide_eq_false (by omega)
  have hD2 : decide ((e2 : Int) < ((e : Nat) : Int)) = false := decide_eq_false (by omega)
  have hD2' : decide (e2 < e) = false := decide_eq_false (by omega)
  have hD3 : decide (n2 < n) = false := decide_eq_false (by omega)
  have hD4 : decide (n < (0 : Int)) = false := decide_eq_false (by omega)
  go_enter Tryd.func6, Tryd.ntmps6
  go_wp2_with (go_at_call 25; with_reducible refine (CW.out _ HU.out h6).mono ?_; rintro e' w1 ⟨rfl, hb⟩; have HB1 := Aside0.mk (HB0.out.trans (hb.mono HB0.out.size)); have HT1 := Lib.hid (HT.out.below HB1.out h2); have h21 := Lib.hid (Nat.le_trans h2 HB1.out.size); clear hb)
  go_wp2_with (go_at_call 21; with_reducible refine (CC1.out _ HT1.out h21.out).mono ?_; rintro e' w2 ⟨rfl, hb⟩; have HB2 := Aside0.mk (HB1.out.trans (hb.mono HB1.out.size)); have HT2 := Lib.hid (HT.out.below HB2.out h2); have h22 := Lib.hid (Nat.le_trans h2 HB2.out.size); clear hb)
  go_wp2_with (go_at_call 21; with_reducible refine (CC2.out _ HT2.out h22.out).mono ?_; rintro e' w3 ⟨rfl, hb⟩; have HB3 := Aside0.mk (HB2.out.trans (hb.mono HB2.out.size)); have HT3 := Lib.hid (HT.out.below HB3.out h2); have h23 := Lib.hid (Nat.le_trans h2 HB3.out.size); clear hb)
  go_wp2_with (go_at_call 23; with_reducible refine (CT1.out _ HT3.out h23.out).mono ?_; rintro e' w4 ⟨rfl, hb⟩; have HB4 := Aside0.mk (HB3.out.trans (hb.mono HB3.out.size)); have HT4 := Lib.hid (HT.out.below HB4.out h2); have h24 := Lib.hid (Nat.le_trans h2 HB4.out.size); clear hb)
  go_wp2_with (go_at_call 21; with_reducible refine (CC3.out _ HT4.out h24.out).mono ?_; rintro e' w5 ⟨rfl, hb⟩; have HB5 := Aside0.mk (HB4.out.trans (hb.mono HB4.out.size)); have HT5 := Lib.hid (HT.out.below HB5.out h2); have h25 := Lib.hid (Nat.le_trans h2 HB5.out.size); clear hb)
  go_wp2_with (go_at_call 23; with_reducible refine (CT1.out _ HT5.out h25.out).mono ?_; rintro e' w6 ⟨rfl, hb⟩; have HB6 := Aside0.mk (HB5.out.trans (hb.mono HB5.out.size)); have HT6 := Lib.hid (HT.out.below HB6.out h2); have h26 := Lib.hid (Nat.le_trans h2 HB6.out.size); clear hb)
  go_wp2_with (go_at_call 23; with_reducible refine (CT4.out _ HT6.out h26.out).mono ?_; rintro e' w7 ⟨rfl, hb⟩; have HB7 := Aside0.mk (HB6.out.trans (hb.mono HB6.out.size)); have HT7 := Lib.hid (HT.out.below HB7.out h2); have h27 := Lib.hid (Nat.le_trans h2 HB7.out.size); clear hb)
  go_wp2_with (go_at_call 26; with_reducible refine (CN.out _).mono ?_; rintro e' w8 ⟨rfl, hb⟩; have HB8 := Aside0.mk (HB7.out.trans (hb.mono HB7.out.size)); have HT8 := Lib.hid (HT.out.below HB8.out h2); have h28 := Lib.hid (Nat.le_trans h2 HB8.out.size); clear hb)
  go_wp2_with (go_at_call 18; with_reducible refine (COf.out _ HT8.out).mono ?_; rintro e' w9 ⟨rfl, hb⟩; have HB9 := Aside0.mk (HB8.out.trans (hb.mono HB8.out.size)); have HT9 := Lib.hid (HT.out.below HB9.out h2); have h29 := Lib.hid (Nat.le_trans h2 HB9.out.size); clear hb)
  go_wp2_with (go_at_call 20; with_reducible refine (awake02 _ HT9.out h29.out).mono ?_; rintro e' w10 ⟨rfl, hb⟩; have HB10 := Aside0.mk (HB9.out.trans (hb.mono HB9.out.size)); have HT10 := Lib.hid (HT.out.below HB10.out h2); have h210 := Lib.hid (Nat.le_trans h2 HB10.out.size); clear hb)
  go_ret
  exact ⟨rfl, HB10.out⟩

set_option maxRecDepth 100000 in
set_option maxHeartbeats 2000000 in
theorem wc_po_bad (s t : ByteArray) (q : Int) (m : Int) (w : World) (hs : s.size ≤ 268435455) (ht : t.size ≤ 268435455) (hq0 : -9223372036854775808 ≤ q) (hq1 : q ≤ 9223372036854775807) (hm0 : 0 ≤ m) (hm1 : m ≤ 255)
    (hA : q ≤ 2147483647) (hwh : ¬ Pl.whole s = s.size) (c : Int) (hcq : c = q) (hC : 0 ≤ c) (e e2 : Nat) (n n2 : Int) (he : Pl.cut s c = (e, n)) (he2 : Pl.cut s (c + m) = (e2, n2)) (hfull : e < s.size) (hok : ¬ Pl.ok s e)
    (hw : WTabs w) (hu : Lib.Utf8Tabs 4 5 w) :
    Calls Tryd.prog 6 #[.string s, .string t, .int .i64 q, .int .u8 m] w fun e w' => e = .returned (.bool true) ∧ Below w.heap.size w w' := by
  have h6 : 6 ≤ w.heap.size := World.block_lt_of_cell? w _ (hu.2 0 (by decide)).1
  have h2 : 2 ≤ w.heap.size := by omega
  have HU := Lib.hid hu
  have HT := Lib.hid hw
  clear hu hw
  have hc1 : c ≤ 2147483647 := by
    omega
  have hc0 : -9223372036854775808 ≤ c := by
    omega
  obtain ⟨ws, hws⟩ : ∃ x, Pl.wsum (Pl.pts (Pl.runes s 0)) = x := ⟨_, rfl⟩
  obtain ⟨wt, hwt⟩ : ∃ x, Pl.wsum (Pl.pts (Pl.runes t 0)) = x := ⟨_, rfl⟩
  have hls := Pl.runes_length s s.size 0 (by omega)
  have hlt := Pl.runes_length t t.size 0 (by omega)
  have hwsb : 0 ≤ ws ∧ ws ≤ 536870910 := by
    rw [← hws]
    have h1 := wsum_nonneg (Pl.pts (Pl.runes s 0)); have h2 := wsum_le (Pl.pts (Pl.runes s 0))
    rw [Pl.pts, List.length_map] at h2
    unfold Pl.pts at h1 ⊢
    omega
  have hwtb : 0 ≤ wt ∧ wt ≤ 536870910 := by
    rw [← hwt]
    have h1 := wsum_nonneg (Pl.pts (Pl.runes t 0)); have h2 := wsum_le (Pl.pts (Pl.runes t 0))
    rw [Pl.pts, List.length_map] at h2
    unfold Pl.pts at h1 ⊢
    omega
  have hw0 := hwsb.1; have hw1 := hwsb.2; have hv0 := hwtb.1; have hv1 := hwtb.2
  have hall := cut_said s ws hw0
  have hall2 : Pl.cut s ws = (s.size, ws) := by
    rw [← hws] at hall ⊢
    have := cut_all_said hall
    exact Prod.ext this.1 this.2
  have hd := cut_said s c hC
  rw [he] at hd
  have hd2 := cut_said s (c + m) (by omega)
  rw [he2] at hd2
  have hw12 := cut_wider hd hd2 (by omega)
  have hee : e ≤ e2 := hw12.1
  have hnn : n ≤ n2 := hw12.2
  have hes2 : e2 ≤ s.size := cut_in hd2
  have hes : e ≤ s.size := cut_in hd
  have hnt : n = Pl.wsum (Pl.pts (Pl.runes (s.extract 0 e) 0)) := cut_text hd
  have hn0 : 0 ≤ n := by rw [hnt]; exact wsum_nonneg _
  have hnc : n ≤ c := hd.le
  have hgt : n + Pl.widthOf ((Utf8.decode s e).1 : Int) > c := hd.full hfull
  have hwb := Pl.widthOf_bd ((Utf8.decode s e).1 : Int)
  have hpt := i64_dec s e hfull
  clear hd hd2 hw12
  have hsz : (s.extract 0 e).size = e := size_cut s e hes
  have hbb : (s.extract 0 e2).extract 0 e = s.extract 0 e := cut_both hee hes2
  have hsz2 : (s.extract 0 e2).size = e2 := size_cut s e2 hes2
  have hsall : s.extract 0 s.size = s := extract_all s
  have CW := Lib.hid (fun w h => whole_any s w (by omega) h)
  have CT1 := Lib.hid (fun w h h2 => wtext_any s w (by omega) h h2)
  have CT2 := Lib.hid (fun w h h2 => wtext_any t w (by omega) h h2)
  have CT4 := Lib.hid (fun w h h2 => wtext_any (s.extract 0 e) w (by rw [size_cut s e hes]; omega) h h2)
  have CC1 := Lib.hid (fun w h h2 => cut_calls s c w (by omega) (by omega) h h2)
  have CC2 := Lib.hid (fun w h h2 => cut_calls s (c + m) w (by omega) (by omega) h h2)
  have CC3 := Lib.hid (fun w h h2 => cut_calls s ws w (by omega) (by omega) h h2)
  rw [he] at CC1
  rw [he2] at CC2
  rw [hall2, hsall] at CC3
  rw [hws] at CT1
  rw [hwt] at CT2
  rw [← hnt] at CT4
  have hwb1 : ((Pl.whole s : Int) == (s.size : Int)) = false := by rw [beq_eq_false_iff_ne]; omega
  have CN0 : ∀ w, _ := fun w => next_any s (e : Int) w (by omega)
  have en : Pl.next s (e : Int) = (((Utf8.decode s e).1 : Int), ((Utf8.decode s e).2 : Int), Pl.good s e) := by unfold Pl.next; rw [if_pos (by omega), Int.toNat_natCast]
  rw [en, show Pl.good s e = false from decide_eq_false hok] at CN0
  have CN := Lib.hid CN0
  have COf := Lib.hid (fun w h => of_any ((Utf8.decode s e).1 : Int) w h)
  clear CN0 en
  have hb3 := (Pl.bad_iff s e hfull).2 hok
  have hrb : (((Utf8.decode s e).1 : Int) != 65533) = false := by rw [bne_eq_false_iff_eq]; omega
  have hnb : (((Utf8.decode s e).2 : Int) != 1) = false := by rw [bne_eq_false_iff_eq]; omega
  clear hb3
  have hfb : ((e : Int) == (s.size : Int)) = false := by rw [beq_eq_false_iff_ne]; omega
  have hok' := Lib.hid hok
  clear hok
  have HB0 := Aside0.mk (Below.refl w.heap.size w)
  have HCQ := Lib.hid hcq
  have HWH := Lib.hid hwh
  clear hwh hnt hws hwt hall hall2 he he2 hls hlt hwsb hwtb
  subst hcq
  have hA1 : decide ((2147483647 : Int) < c) = false := decide_eq_false (by omega)
  have hD1 : decide ((s.size : Int) < ((e : Nat) : Int)) = false := decide_eq_false (by omega)
  have hD1' : decide (s.size < e) = false := decide_eq_false (by omega)
  have hD2 : decide ((e2 : Int) < ((e : Nat) : Int)) = false := decide_eq_false (by omega)
  have hD2' : decide (e2 < e) = false := decide_eq_false (by omega)
  have hD3 : decide (n2 < n) = false := decide_eq_false (by omega)
  have hD4 : decide (n < (0 : Int)) = false := decide_eq_false (by omega)
  go_enter Tryd.func6, Tryd.ntmps6
  go_wp2_with (go_at_call 25; with_reducible refine (CW.out _ HU.out h6).mono ?_; rintro e' w1 ⟨rfl, hb⟩; have HB1 := Aside0.mk (HB0.out.trans (hb.mono HB0.out.size)); have HT1 := Lib.hid (HT.out.below HB1.out h2); have h21 := Lib.hid (Nat.le_trans h2 HB1.out.size); clear hb)
  go_wp2_with (go_at_call 21; with_reducible refine (CC1.out _ HT1.out h21.out).mono ?_; rintro e' w2 ⟨rfl, hb⟩; have HB2 := Aside0.mk (HB1.out.trans (hb.mono HB1.out.size)); have HT2 := Lib.hid (HT.out.below HB2.out h2); have h22 := Lib.hid (Nat.le_trans h2 HB2.out.size); clear hb)
  go_wp2_with (go_at_call 21; with_reducible refine (CC2.out _ HT2.out h22.out).mono ?_; rintro e' w3 ⟨rfl, hb⟩; have HB3 := Aside0.mk (HB2.out.trans (hb.mono HB2.out.size)); have HT3 := Lib.hid (HT.out.below HB3.out h2); have h23 := Lib.hid (Nat.le_trans h2 HB3.out.size); clear hb)
  go_wp2_with (go_at_call 23; with_reducible refine (CT1.out _ HT3.out h23.out).mono ?_; rintro e' w4 ⟨rfl, hb⟩; have HB4 := Aside0.mk (HB3.out.trans (hb.mono HB3.out.size)); have HT4 := Lib.hid (HT.out.below HB4.out h2); have h24 := Lib.hid (Nat.le_trans h2 HB4.out.size); clear hb)
  go_wp2_with (go_at_call 21; with_reducible refine (CC3.out _ HT4.out h24.out).mono ?_; rintro e' w5 ⟨rfl, hb⟩; have HB5 := Aside0.mk (HB4.out.trans (hb.mono HB4.out.size)); have HT5 := Lib.hid (HT.out.below HB5.out h2); have h25 := Lib.hid (Nat.le_trans h2 HB5.out.size); clear hb)
  go_wp2_with (go_at_call 23; with_reducible refine (CT1.out _ HT5.out h25.out).mono ?_; rintro e' w6 ⟨rfl, hb⟩; have HB6 := Aside0.mk (HB5.out.trans (hb.mono HB5.out.size)); have HT6 := Lib.hid (HT.out.below HB6.out h2); have h26 := Lib.hid (Nat.le_trans h2 HB6.out.size); clear hb)
  go_wp2_with (go_at_call 23; with_reducible refine (CT4.out _ HT6.out h26.out).mono ?_; rintro e' w7 ⟨rfl, hb⟩; have HB7 := Aside0.mk (HB6.out.trans (hb.mono HB6.out.size)); have HT7 := Lib.hid (HT.out.below HB7.out h2); have h27 := Lib.hid (Nat.le_trans h2 HB7.out.size); clear hb)
  go_wp2_with (go_at_call 26; with_reducible refine (CN.out _).mono ?_; rintro e' w8 ⟨rfl, hb⟩; have HB8 := Aside0.mk (HB7.out.trans (hb.mono HB7.out.size)); have HT8 := Lib.hid (HT.out.below HB8.out h2); have h28 := Lib.hid (Nat.le_trans h2 HB8.out.size); clear hb)
  go_wp2_with (go_at_call 18; with_reducible refine (COf.out _ HT8.out).mono ?_; rintro e' w9 ⟨rfl, hb⟩; have HB9 := Aside0.mk (HB8.out.trans (hb.mono HB8.out.size)); have HT9 := Lib.hid (HT.out.below HB9.out h2); have h29 := Lib.hid (Nat.le_trans h2 HB9.out.size); clear hb)
  go_wp2_with (go_at_call 20; with_reducible refine (awake02 _ HT9.out h29.out).mono ?_; rintro e' w10 ⟨rfl, hb⟩; have HB10 := Aside0.mk (HB9.out.trans (hb.mono HB9.out.size)); have HT10 := Lib.hid (HT.out.below HB10.out h2); have h210 := Lib.hid (Nat.le_trans h2 HB10.out.size); clear hb)
  go_ret
  exact ⟨rfl, HB10.out⟩

set_option maxRecDepth 100000 in
set_option maxHeartbeats 2000000 in
theorem wc_mw_all (s t : ByteArray) (q : Int) (m : Int) (w : World) (hs : s.size ≤ 268435455) (ht : t.size ≤ 268435455) (hq0 : -9223372036854775808 ≤ q) (hq1 : q ≤ 9223372036854775807) (hm0 : 0 ≤ m) (hm1 : m ≤ 255)
    (hA : q > 2147483647) (hwh : Pl.whole s = s.size) (c : Int) (hcq : c = Int.tmod q 2147483648) (hC : 0 ≤ c) (e e2 : Nat) (n n2 : Int) (he : Pl.cut s c = (e, n)) (he2 : Pl.cut s (c + m) = (e2, n2)) (hfull : e = s.size)
    (hw : WTabs w) (hu : Lib.Utf8Tabs 4 5 w) :
    Calls Tryd.prog 6 #[.string s, .string t, .int .i64 q, .int .u8 m] w fun e w' => e = .returned (.bool true) ∧ Below w.heap.size w w' := by
  have h6 : 6 ≤ w.heap.size := World.block_lt_of_cell? w _ (hu.2 0 (by decide)).1
  have h2 : 2 ≤ w.heap.size := by omega
  have HU := Lib.hid hu
  have HT := Lib.hid hw
  clear hu hw
  have hc1 : c ≤ 2147483647 := by
    have h1 : 0 ≤ Int.tmod q 2147483648 ∧ Int.tmod q 2147483648 < 2147483648 := ⟨Int.tmod_nonneg _ (by omega), Int.tmod_lt_of_pos _ (by omega)⟩; omega
  have hc0 : -9223372036854775808 ≤ c := by
    have h1 : 0 ≤ Int.tmod q 2147483648 := Int.tmod_nonneg _ (by omega); omega
  obtain ⟨ws, hws⟩ : ∃ x, Pl.wsum (Pl.pts (Pl.runes s 0)) = x := ⟨_, rfl⟩
  obtain ⟨wt, hwt⟩ : ∃ x, Pl.wsum (Pl.pts (Pl.runes t 0)) = x := ⟨_, rfl⟩
  have hls := Pl.runes_length s s.size 0 (by omega)
  have hlt := Pl.runes_length t t.size 0 (by omega)
  have hwsb : 0 ≤ ws ∧ ws ≤ 536870910 := by
    rw [← hws]
    have h1 := wsum_nonneg (Pl.pts (Pl.runes s 0)); have h2 := wsum_le (Pl.pts (Pl.runes s 0))
    rw [Pl.pts, List.length_map] at h2
    unfold Pl.pts at h1 ⊢
    omega
  have hwtb : 0 ≤ wt ∧ wt ≤ 536870910 := by
    rw [← hwt]
    have h1 := wsum_nonneg (Pl.pts (Pl.runes t 0)); have h2 := wsum_le (Pl.pts (Pl.runes t 0))
    rw [Pl.pts, List.length_map] at h2
    unfold Pl.pts at h1 ⊢
    omega
  have hw0 := hwsb.1; have hw1 := hwsb.2; have hv0 := hwtb.1; have hv1 := hwtb.2
  have hall := cut_said s ws hw0
  have hall2 : Pl.cut s ws = (s.size, ws) := by
    rw [← hws] at hall ⊢
    have := cut_all_said hall
    exact Prod.ext this.1 this.2
  have hd := cut_said s c hC
  rw [he] at hd
  have hd2 := cut_said s (c + m) (by omega)
  rw [he2] at hd2
  have hw12 := cut_wider hd hd2 (by omega)
  have hee : e ≤ e2 := hw12.1
  have hnn : n ≤ n2 := hw12.2
  have hes2 : e2 ≤ s.size := cut_in hd2
  have hes : e ≤ s.size := cut_in hd
  have hnt : n = Pl.wsum (Pl.pts (Pl.runes (s.extract 0 e) 0)) := cut_text hd
  have hn0 : 0 ≤ n := by rw [hnt]; exact wsum_nonneg _
  have hnc : n ≤ c := hd.le
  clear hd hd2 hw12
  have hsz : (s.extract 0 e).size = e := size_cut s e hes
  have hbb : (s.extract 0 e2).extract 0 e = s.extract 0 e := cut_both hee hes2
  have hsz2 : (s.extract 0 e2).size = e2 := size_cut s e2 hes2
  have hsall : s.extract 0 s.size = s := extract_all s
  have CW := Lib.hid (fun w h => whole_any s w (by omega) h)
  have CT1 := Lib.hid (fun w h h2 => wtext_any s w (by omega) h h2)
  have CT2 := Lib.hid (fun w h h2 => wtext_any t w (by omega) h h2)
  have CT4 := Lib.hid (fun w h h2 => wtext_any (s.extract 0 e) w (by rw [size_cut s e hes]; omega) h h2)
  have CC1 := Lib.hid (fun w h h2 => cut_calls s c w (by omega) (by omega) h h2)
  have CC2 := Lib.hid (fun w h h2 => cut_calls s (c + m) w (by omega) (by omega) h h2)
  have CC3 := Lib.hid (fun w h h2 => cut_calls s ws w (by omega) (by omega) h h2)
  rw [he] at CC1
  rw [he2] at CC2
  rw [hall2, hsall] at CC3
  rw [hws] at CT1
  rw [hwt] at CT2
  rw [← hnt] at CT4
  have hjoin : Pl.wsum (Pl.pts (Pl.runes (s ++ t) 0)) = ws + wt := by rw [pts_both s t hwh, wsum_append, hws, hwt]
  have CT3 := Lib.hid (fun w h h2 => wtext_any (s ++ t) w (by rw [ByteArray.size_append]; omega) h h2)
  rw [hjoin] at CT3
  clear hjoin
  have hwb1 : ((Pl.whole s : Int) == (s.size : Int)) = true := by rw [beq_iff_eq]; omega
  have hfb : ((e : Int) == (s.size : Int)) = true := by rw [beq_iff_eq]; omega
  have HB0 := Aside0.mk (Below.refl w.heap.size w)
  have HCQ := Lib.hid hcq
  have HWH := Lib.hid hwh
  clear hwh hnt hws hwt hall hall2 he he2 hls hlt hwsb hwtb hfull
  have hA1 : decide ((2147483647 : Int) < q) = true := decide_eq_true hA
  have hmod : Int.tmod q 2147483648 = c := hcq.symm
  clear hcq
  have hD1 : decide ((s.size : Int) < ((e : Nat) : Int)) = false := decide_eq_false (by omega)
  have hD1' : decide (s.size < e) = false := decide_eq_false (by omega)
  have hD2 : decide ((e2 : Int) < ((e : Nat) : Int)) = false := decide_eq_false (by omega)
  have hD2' : decide (e2 < e) = false := decide_eq_false (by omega)
  have hD3 : decide (n2 < n) = false := decide_eq_false (by omega)
  have hD4 : decide (n < (0 : Int)) = false := decide_eq_false (by omega)
  go_enter Tryd.func6, Tryd.ntmps6
  go_wp2_with (go_at_call 25; with_reducible refine (CW.out _ HU.out h6).mono ?_; rintro e' w1 ⟨rfl, hb⟩; have HB1 := Aside0.mk (HB0.out.trans (hb.mono HB0.out.size)); have HT1 := Lib.hid (HT.out.below HB1.out h2); have h21 := Lib.hid (Nat.le_trans h2 HB1.out.size); clear hb)
  go_wp2_with (go_at_call 23; with_reducible refine (CT3.out _ HT1.out h21.out).mono ?_; rintro e' w2 ⟨rfl, hb⟩; have HB2 := Aside0.mk (HB1.out.trans (hb.mono HB1.out.size)); have HT2 := Lib.hid (HT.out.below HB2.out h2); have h22 := Lib.hid (Nat.le_trans h2 HB2.out.size); clear hb)
  go_wp2_with (go_at_call 23; with_reducible refine (CT1.out _ HT2.out h22.out).mono ?_; rintro e' w3 ⟨rfl, hb⟩; have HB3 := Aside0.mk (HB2.out.trans (hb.mono HB2.out.size)); have HT3 := Lib.hid (HT.out.below HB3.out h2); have h23 := Lib.hid (Nat.le_trans h2 HB3.out.size); clear hb)
  go_wp2_with (go_at_call 23; with_reducible refine (CT2.out _ HT3.out h23.out).mono ?_; rintro e' w4 ⟨rfl, hb⟩; have HB4 := Aside0.mk (HB3.out.trans (hb.mono HB3.out.size)); have HT4 := Lib.hid (HT.out.below HB4.out h2); have h24 := Lib.hid (Nat.le_trans h2 HB4.out.size); clear hb)
  go_wp2_with (go_at_call 21; with_reducible refine (CC1.out _ HT4.out h24.out).mono ?_; rintro e' w5 ⟨rfl, hb⟩; have HB5 := Aside0.mk (HB4.out.trans (hb.mono HB4.out.size)); have HT5 := Lib.hid (HT.out.below HB5.out h2); have h25 := Lib.hid (Nat.le_trans h2 HB5.out.size); clear hb)
  go_wp2_with (go_at_call 21; with_reducible refine (CC2.out _ HT5.out h25.out).mono ?_; rintro e' w6 ⟨rfl, hb⟩; have HB6 := Aside0.mk (HB5.out.trans (hb.mono HB5.out.size)); have HT6 := Lib.hid (HT.out.below HB6.out h2); have h26 := Lib.hid (Nat.le_trans h2 HB6.out.size); clear hb)
  go_wp2_with (go_at_call 23; with_reducible refine (CT1.out _ HT6.out h26.out).mono ?_; rintro e' w7 ⟨rfl, hb⟩; have HB7 := Aside0.mk (HB6.out.trans (hb.mono HB6.out.size)); have HT7 := Lib.hid (HT.out.below HB7.out h2); have h27 := Lib.hid (Nat.le_trans h2 HB7.out.size); clear hb)
  go_wp2_with (go_at_call 21; with_reducible refine (CC3.out _ HT7.out h27.out).mono ?_; rintro e' w8 ⟨rfl, hb⟩; have HB8 := Aside0.mk (HB7.out.trans (hb.mono HB7.out.size)); have HT8 := Lib.hid (HT.out.below HB8.out h2); have h28 := Lib.hid (Nat.le_trans h2 HB8.out.size); clear hb)
  go_wp2_with (go_at_call 23; with_reducible refine (CT1.out _ HT8.out h28.out).mono ?_; rintro e' w9 ⟨rfl, hb⟩; have HB9 := Aside0.mk (HB8.out.trans (hb.mono HB8.out.size)); have HT9 := Lib.hid (HT.out.below HB9.out h2); have h29 := Lib.hid (Nat.le_trans h2 HB9.out.size); clear hb)
  go_wp2_with (go_at_call 23; with_reducible refine (CT4.out _ HT9.out h29.out).mono ?_; rintro e' w10 ⟨rfl, hb⟩; have HB10 := Aside0.mk (HB9.out.trans (hb.mono HB9.out.size)); have HT10 := Lib.hid (HT.out.below HB10.out h2); have h210 := Lib.hid (Nat.le_trans h2 HB10.out.size); clear hb)
  go_wp2_with (go_at_call 20; with_reducible refine (awake02 _ HT10.out h210.out).mono ?_; rintro e' w11 ⟨rfl, hb⟩; have HB11 := Aside0.mk (HB10.out.trans (hb.mono HB10.out.size)); have HT11 := Lib.hid (HT.out.below HB11.out h2); have h211 := Lib.hid (Nat.le_trans h2 HB11.out.size); clear hb)
  go_ret
  exact ⟨rfl, HB11.out⟩

set_option maxRecDepth 100000 in
set_option maxHeartbeats 2000000 in
theorem wc_mw_good (s t : ByteArray) (q : Int) (m : Int) (w : World) (hs : s.size ≤ 268435455) (ht : t.size ≤ 268435455) (hq0 : -9223372036854775808 ≤ q) (hq1 : q ≤ 9223372036854775807) (hm0 : 0 ≤ m) (hm1 : m ≤ 255)
    (hA : q > 2147483647) (hwh : Pl.whole s = s.size) (c : Int) (hcq : c = Int.tmod q 2147483648) (hC : 0 ≤ c) (e e2 : Nat) (n n2 : Int) (he : Pl.cut s c = (e, n)) (he2 : Pl.cut s (c + m) = (e2, n2)) (hfull : e < s.size) (hok : Pl.ok s e)
    (hw : WTabs w) (hu : Lib.Utf8Tabs 4 5 w) :
    Calls Tryd.prog 6 #[.string s, .string t, .int .i64 q, .int .u8 m] w fun e w' => e = .returned (.bool true) ∧ Below w.heap.size w w' := by
  have h6 : 6 ≤ w.heap.size := World.block_lt_of_cell? w _ (hu.2 0 (by decide)).1
  have h2 : 2 ≤ w.heap.size := by omega
  have HU := Lib.hid hu
  have HT := Lib.hid hw
  clear hu hw
  have hc1 : c ≤ 2147483647 := by
    have h1 : 0 ≤ Int.tmod q 2147483648 ∧ Int.tmod q 2147483648 < 2147483648 := ⟨Int.tmod_nonneg _ (by omega), Int.tmod_lt_of_pos _ (by omega)⟩; omega
  have hc0 : -9223372036854775808 ≤ c := by
    have h1 : 0 ≤ Int.tmod q 2147483648 := Int.tmod_nonneg _ (by omega); omega
  obtain ⟨ws, hws⟩ : ∃ x, Pl.wsum (Pl.pts (Pl.runes s 0)) = x := ⟨_, rfl⟩
  obtain ⟨wt, hwt⟩ : ∃ x, Pl.wsum (Pl.pts (Pl.runes t 0)) = x := ⟨_, rfl⟩
  have hls := Pl.runes_length s s.size 0 (by omega)
  have hlt := Pl.runes_length t t.size 0 (by omega)
  have hwsb : 0 ≤ ws ∧ ws ≤ 536870910 := by
    rw [← hws]
    have h1 := wsum_nonneg (Pl.pts (Pl.runes s 0)); have h2 := wsum_le (Pl.pts (Pl.runes s 0))
    rw [Pl.pts, List.length_map] at h2
    unfold Pl.pts at h1 ⊢
    omega
  have hwtb : 0 ≤ wt ∧ wt ≤ 536870910 := by
    rw [← hwt]
    have h1 := wsum_nonneg (Pl.pts (Pl.runes t 0)); have h2 := wsum_le (Pl.pts (Pl.runes t 0))
    rw [Pl.pts, List.length_map] at h2
    unfold Pl.pts at h1 ⊢
    omega
  have hw0 := hwsb.1; have hw1 := hwsb.2; have hv0 := hwtb.1; have hv1 := hwtb.2
  have hall := cut_said s ws hw0
  have hall2 : Pl.cut s ws = (s.size, ws) := by
    rw [← hws] at hall ⊢
    have := cut_all_said hall
    exact Prod.ext this.1 this.2
  have hd := cut_said s c hC
  rw [he] at hd
  have hd2 := cut_said s (c + m) (by omega)
  rw [he2] at hd2
  have hw12 := cut_wider hd hd2 (by omega)
  have hee : e ≤ e2 := hw12.1
  have hnn : n ≤ n2 := hw12.2
  have hes2 : e2 ≤ s.size := cut_in hd2
  have hes : e ≤ s.size := cut_in hd
  have hnt : n = Pl.wsum (Pl.pts (Pl.runes (s.extract 0 e) 0)) := cut_text hd
  have hn0 : 0 ≤ n := by rw [hnt]; exact wsum_nonneg _
  have hnc : n ≤ c := hd.le
  have hgt : n + Pl.widthOf ((Utf8.decode s e).1 : Int) > c := hd.full hfull
  have hwb := Pl.widthOf_bd ((Utf8.decode s e).1 : Int)
  have hpt := i64_dec s e hfull
  clear hd hd2 hw12
  have hsz : (s.extract 0 e).size = e := size_cut s e hes
  have hbb : (s.extract 0 e2).extract 0 e = s.extract 0 e := cut_both hee hes2
  have hsz2 : (s.extract 0 e2).size = e2 := size_cut s e2 hes2
  have hsall : s.extract 0 s.size = s := extract_all s
  have CW := Lib.hid (fun w h => whole_any s w (by omega) h)
  have CT1 := Lib.hid (fun w h h2 => wtext_any s w (by omega) h h2)
  have CT2 := Lib.hid (fun w h h2 => wtext_any t w (by omega) h h2)
  have CT4 := Lib.hid (fun w h h2 => wtext_any (s.extract 0 e) w (by rw [size_cut s e hes]; omega) h h2)
  have CC1 := Lib.hid (fun w h h2 => cut_calls s c w (by omega) (by omega) h h2)
  have CC2 := Lib.hid (fun w h h2 => cut_calls s (c + m) w (by omega) (by omega) h h2)
  have CC3 := Lib.hid (fun w h h2 => cut_calls s ws w (by omega) (by omega) h h2)
  rw [he] at CC1
  rw [he2] at CC2
  rw [hall2, hsall] at CC3
  rw [hws] at CT1
  rw [hwt] at CT2
  rw [← hnt] at CT4
  have hjoin : Pl.wsum (Pl.pts (Pl.runes (s ++ t) 0)) = ws + wt := by rw [pts_both s t hwh, wsum_append, hws, hwt]
  have CT3 := Lib.hid (fun w h h2 => wtext_any (s ++ t) w (by rw [ByteArray.size_append]; omega) h h2)
  rw [hjoin] at CT3
  clear hjoin
  have hwb1 : ((Pl.whole s : Int) == (s.size : Int)) = true := by rw [beq_iff_eq]; omega
  have CN0 : ∀ w, _ := fun w => next_any s (e : Int) w (by omega)
  have en : Pl.next s (e : Int) = (((Utf8.decode s e).1 : Int), ((Utf8.decode s e).2 : Int), Pl.good s e) := by unfold Pl.next; rw [if_pos (by omega), Int.toNat_natCast]
  rw [en, show Pl.good s e = true from decide_eq_true hok] at CN0
  have CN := Lib.hid CN0
  have COf := Lib.hid (fun w h => of_any ((Utf8.decode s e).1 : Int) w h)
  clear CN0 en
  have hfb : ((e : Int) == (s.size : Int)) = false := by rw [beq_eq_false_iff_ne]; omega
  have hok' := Lib.hid hok
  clear hok
  have HB0 := Aside0.mk (Below.refl w.heap.size w)
  have HCQ := Lib.hid hcq
  have HWH := Lib.hid hwh
  clear hwh hnt hws hwt hall hall2 he he2 hls hlt hwsb hwtb
  have hA1 : decide ((2147483647 : Int) < q) = true := decide_eq_true hA
  have hmod : Int.tmod q 2147483648 = c := hcq.symm
  clear hcq
  have hD1 : decide ((s.size : Int) < ((e : Nat) : Int)) = false := decide_eq_false (by omega)
  have hD1' : decide (s.size < e) = false := decide_eq_false (by omega)
  have hD2 : decide ((e2 : Int) < ((e : Nat) : Int)) = false := decide_eq_false (by omega)
  have hD2' : decide (e2 < e) = false := decide_eq_false (by omega)
  have hD3 : decide (n2 < n) = false := decide_eq_false (by omega)
  have hD4 : decide (n < (0 : Int)) = false := decide_eq_false (by omega)
  go_enter Tryd.func6, Tryd.ntmps6
  go_wp2_with (go_at_call 25; with_reducible refine (CW.out _ HU.out h6).mono ?_; rintro e' w1 ⟨rfl, hb⟩; have HB1 := Aside0.mk (HB0.out.trans (hb.mono HB0.out.size)); have HT1 := Lib.hid (HT.out.below HB1.out h2); have h21 := Lib.hid (Nat.le_trans h2 HB1.out.size); clear hb)
  go_wp2_with (go_at_call 23; with_reducible refine (CT3.out _ HT1.out h21.out).mono ?_; rintro e' w2 ⟨rfl, hb⟩; have HB2 := Aside0.mk (HB1.out.trans (hb.mono HB1.out.size)); have HT2 := Lib.hid (HT.out.below HB2.out h2); have h22 := Lib.hid (Nat.le_trans h2 HB2.out.size); clear hb)
  go_wp2_with (go_at_call 23; with_reducible refine (CT1.out _ HT2.out h22.out).mono ?_; rintro e' w3 ⟨rfl, hb⟩; have HB3 := Aside0.mk (HB2.out.trans (hb.mono HB2.out.size)); have HT3 := Lib.hid (HT.out.below HB3.out h2); have h23 := Lib.hid (Nat.le_trans h2 HB3.out.size); clear hb)
  go_wp2_with (go_at_call 23; with_reducible refine (CT2.out _ HT3.out h23.out).mono ?_; rintro e' w4 ⟨rfl, hb⟩; have HB4 := Aside0.mk (HB3.out.trans (hb.mono HB3.out.size)); have HT4 := Lib.hid (HT.out.below HB4.out h2); have h24 := Lib.hid (Nat.le_trans h2 HB4.out.size); clear hb)
  go_wp2_with (go_at_call 21; with_reducible refine (CC1.out _ HT4.out h24.out).mono ?_; rintro e' w5 ⟨rfl, hb⟩; have HB5 := Aside0.mk (HB4.out.trans (hb.mono HB4.out.size)); have HT5 := Lib.hid (HT.out.below HB5.out h2); have h25 := Lib.hid (Nat.le_trans h2 HB5.out.size); clear hb)
  go_wp2_with (go_at_call 21; with_reducible refine (CC2.out _ HT5.out h25.out).mono ?_; rintro e' w6 ⟨rfl, hb⟩; have HB6 := Aside0.mk (HB5.out.trans (hb.mono HB5.out.size)); have HT6 := Lib.hid (HT.out.below HB6.out h2); have h26 := Lib.hid (Nat.le_trans h2 HB6.out.size); clear hb)
  go_wp2_with (go_at_call 23; with_reducible refine (CT1.out _ HT6.out h26.out).mono ?_; rintro e' w7 ⟨rfl, hb⟩; have HB7 := Aside0.mk (HB6.out.trans (hb.mono HB6.out.size)); have HT7 := Lib.hid (HT.out.below HB7.out h2); have h27 := Lib.hid (Nat.le_trans h2 HB7.out.size); clear hb)
  go_wp2_with (go_at_call 21; with_reducible refine (CC3.out _ HT7.out h27.out).mono ?_; rintro e' w8 ⟨rfl, hb⟩; have HB8 := Aside0.mk (HB7.out.trans (hb.mono HB7.out.size)); have HT8 := Lib.hid (HT.out.below HB8.out h2); have h28 := Lib.hid (Nat.le_trans h2 HB8.out.size); clear hb)
  go_wp2_with (go_at_call 23; with_reducible refine (CT1.out _ HT8.out h28.out).mono ?_; rintro e' w9 ⟨rfl, hb⟩; have HB9 := Aside0.mk (HB8.out.trans (hb.mono HB8.out.size)); have HT9 := Lib.hid (HT.out.below HB9.out h2); have h29 := Lib.hid (Nat.le_trans h2 HB9.out.size); clear hb)
  go_wp2_with (go_at_call 23; with_reducible refine (CT4.out _ HT9.out h29.out).mono ?_; rintro e' w10 ⟨rfl, hb⟩; have HB10 := Aside0.mk (HB9.out.trans (hb.mono HB9.out.size)); have HT10 := Lib.hid (HT.out.below HB10.out h2); have h210 := Lib.hid (Nat.le_trans h2 HB10.out.size); clear hb)
  go_wp2_with (go_at_call 26; with_reducible refine (CN.out _).mono ?_; rintro e' w11 ⟨rfl, hb⟩; have HB11 := Aside0.mk (HB10.out.trans (hb.mono HB10.out.size)); have HT11 := Lib.hid (HT.out.below HB11.out h2); have h211 := Lib.hid (Nat.le_trans h2 HB11.out.size); clear hb)
  go_wp2_with (go_at_call 18; with_reducible refine (COf.out _ HT11.out).mono ?_; rintro e' w12 ⟨rfl, hb⟩; have HB12 := Aside0.mk (HB11.out.trans (hb.mono HB11.out.size)); have HT12 := Lib.hid (HT.out.below HB12.out h2); have h212 := Lib.hid (Nat.le_trans h2 HB12.out.size); clear hb)
  go_wp2_with (go_at_call 20; with_reducible refine (awake02 _ HT12.out h212.out).mono ?_; rintro e' w13 ⟨rfl, hb⟩; have HB13 := Aside0.mk (HB12.out.trans (hb.mono HB12.out.size)); have HT13 := Lib.hid (HT.out.below HB13.out h2); have h213 := Lib.hid (Nat.le_trans h2 HB13.out.size); clear hb)
  go_ret
  exact ⟨rfl, HB13.out⟩

set_option maxRecDepth 100000 in
set_option maxHeartbeats 2000000 in
theorem wc_mw_bad (s t : ByteArray) (q : Int) (m : Int) (w : World) (hs : s.size ≤ 268435455) (ht : t.size ≤ 268435455) (hq0 : -9223372036854775808 ≤ q) (hq1 : q ≤ 9223372036854775807) (hm0 : 0 ≤ m) (hm1 : m ≤ 255)
    (hA : q > 2147483647) (hwh : Pl.whole s = s.size) (c : Int) (hcq : c = Int.tmod q 2147483648) (hC : 0 ≤ c) (e e2 : Nat) (n n2 : Int) (he : Pl.cut s c = (e, n)) (he2 : Pl.cut s (c + m) = (e2, n2)) (hfull : e < s.size) (hok : ¬ Pl.ok s e)
    (hw : WTabs w) (hu : Lib.Utf8Tabs 4 5 w) :
    Calls Tryd.prog 6 #[.string s, .string t, .int .i64 q, .int .u8 m] w fun e w' => e = .returned (.bool true) ∧ Below w.heap.size w w' := by
  have h6 : 6 ≤ w.heap.size := World.block_lt_of_cell? w _ (hu.2 0 (by decide)).1
  have h2 : 2 ≤ w.heap.size := by omega
  have HU := Lib.hid hu
  have HT := Lib.hid hw
  clear hu hw
  have hc1 : c ≤ 2147483647 := by
    have h1 : 0 ≤ Int.tmod q 2147483648 ∧ Int.tmod q 2147483648 < 2147483648 := ⟨Int.tmod_nonneg _ (by omega), Int.tmod_lt_of_pos _ (by omega)⟩; omega
  have hc0 : -9223372036854775808 ≤ c := by
    have h1 : 0 ≤ Int.tmod q 2147483648 := Int.tmod_nonneg _ (by omega); omega
  obtain ⟨ws, hws⟩ : ∃ x, Pl.wsum (Pl.pts (Pl.runes s 0)) = x := ⟨_, rfl⟩
  obtain ⟨wt, hwt⟩ : ∃ x, Pl.wsum (Pl.pts (Pl.runes t 0)) = x := ⟨_, rfl⟩
  have hls := Pl.runes_length s s.size 0 (by omega)
  have hlt := Pl.runes_length t t.size 0 (by omega)
  have hwsb : 0 ≤ ws ∧ ws ≤ 536870910 := by
    rw [← hws]
    have h1 := wsum_nonneg (Pl.pts (Pl.runes s 0)); have h2 := wsum_le (Pl.pts (Pl.runes s 0))
    rw [Pl.pts, List.length_map] at h2
    unfold Pl.pts at h1 ⊢
    omega
  have hwtb : 0 ≤ wt ∧ wt ≤ 536870910 := by
    rw [← hwt]
    have h1 := wsum_nonneg (Pl.pts (Pl.runes t 0)); have h2 := wsum_le (Pl.pts (Pl.runes t 0))
    rw [Pl.pts, List.length_map] at h2
    unfold Pl.pts at h1 ⊢
    omega
  have hw0 := hwsb.1; have hw1 := hwsb.2; have hv0 := hwtb.1; have hv1 := hwtb.2
  have hall := cut_said s ws hw0
  have hall2 : Pl.cut s ws = (s.size, ws) := by
    rw [← hws] at hall ⊢
    have := cut_all_said hall
    exact Prod.ext this.1 this.2
  have hd := cut_said s c hC
  rw [he] at hd
  have hd2 := cut_said s (c + m) (by omega)
  rw [he2] at hd2
  have hw12 := cut_wider hd hd2 (by omega)
  have hee : e ≤ e2 := hw12.1
  have hnn : n ≤ n2 := hw12.2
  have hes2 : e2 ≤ s.size := cut_in hd2
  have hes : e ≤ s.size := cut_in hd
  have hnt : n = Pl.wsum (Pl.pts (Pl.runes (s.extract 0 e) 0)) := cut_text hd
  have hn0 : 0 ≤ n := by rw [hnt]; exact wsum_nonneg _
  have hnc : n ≤ c := hd.le
  have hgt : n + Pl.widthOf ((Utf8.decode s e).1 : Int) > c := hd.full hfull
  have hwb := Pl.widthOf_bd ((Utf8.decode s e).1 : Int)
  have hpt := i64_dec s e hfull
  clear hd hd2 hw12
  have hsz : (s.extract 0 e).size = e := size_cut s e hes
  have hbb : (s.extract 0 e2).extract 0 e = s.extract 0 e := cut_both hee hes2
  have hsz2 : (s.extract 0 e2).size = e2 := size_cut s e2 hes2
  have hsall : s.extract 0 s.size = s := extract_all s
  have CW := Lib.hid (fun w h => whole_any s w (by omega) h)
  have CT1 := Lib.hid (fun w h h2 => wtext_any s w (by omega) h h2)
  have CT2 := Lib.hid (fun w h h2 => wtext_any t w (by omega) h h2)
  have CT4 := Lib.hid (fun w h h2 => wtext_any (s.extract 0 e) w (by rw [size_cut s e hes]; omega) h h2)
  have CC1 := Lib.hid (fun w h h2 => cut_calls s c w (by omega) (by omega) h h2)
  have CC2 := Lib.hid (fun w h h2 => cut_calls s (c + m) w (by omega) (by omega) h h2)
  have CC3 := Lib.hid (fun w h h2 => cut_calls s ws w (by omega) (by omega) h h2)
  rw [he] at CC1
  rw [he2] at CC2
  rw [hall2, hsall] at CC3
  rw [hws] at CT1
  rw [hwt] at CT2
  rw [← hnt] at CT4
  have hjoin : Pl.wsum (Pl.pts (Pl.runes (s ++ t) 0)) = ws + wt := by rw [pts_both s t hwh, wsum_append, hws, hwt]
  have CT3 := Lib.hid (fun w h h2 => wtext_any (s ++ t) w (by rw [ByteArray.size_append]; omega) h h2)
  rw [hjoin] at CT3
  clear hjoin
  have hwb1 : ((Pl.whole s : Int) == (s.size : Int)) = true := by rw [beq_iff_eq]; omega
  have CN0 : ∀ w, _ := fun w => next_any s (e : Int) w (by omega)
  have en : Pl.next s (e : Int) = (((Utf8.decode s e).1 : Int), ((Utf8.decode s e).2 : Int), Pl.good s e) := by unfold Pl.next; rw [if_pos (by omega), Int.toNat_natCast]
  rw [en, show Pl.good s e = false from decide_eq_false hok] at CN0
  have CN := Lib.hid CN0
  have COf := Lib.hid (fun w h => of_any ((Utf8.decode s e).1 : Int) w h)
  clear CN0 en
  have hb3 := (Pl.bad_iff s e hfull).2 hok
  have hrb : (((Utf8.decode s e).1 : Int) != 65533) = false := by rw [bne_eq_false_iff_eq]; omega
  have hnb : (((Utf8.decode s e).2 : Int) != 1) = false := by rw [bne_eq_false_iff_eq]; omega
  clear hb3
  have hfb : ((e : Int) == (s.size : Int)) = false := by rw [beq_eq_false_iff_ne]; omega
  have hok' := Lib.hid hok
  clear hok
  have HB0 := Aside0.mk (Below.refl w.heap.size w)
  have HCQ := Lib.hid hcq
  have HWH := Lib.hid hwh
  clear hwh hnt hws hwt hall hall2 he he2 hls hlt hwsb hwtb
  have hA1 : decide ((2147483647 : Int) < q) = true := decide_eq_true hA
  have hmod : Int.tmod q 2147483648 = c := hcq.symm
  clear hcq
  have hD1 : decide ((s.size : Int) < ((e : Nat) : Int)) = false := decide_eq_false (by omega)
  have hD1' : decide (s.size < e) = false := decide_eq_false (by omega)
  have hD2 : decide ((e2 : Int) < ((e : Nat) : Int)) = false := decide_eq_false (by omega)
  have hD2' : decide (e2 < e) = false := decide_eq_false (by omega)
  have hD3 : decide (n2 < n) = false := decide_eq_false (by omega)
  have hD4 : decide (n < (0 : Int)) = false := decide_eq_false (by omega)
  go_enter Tryd.func6, Tryd.ntmps6
  go_wp2_with (go_at_call 25; with_reducible refine (CW.out _ HU.out h6).mono ?_; rintro e' w1 ⟨rfl, hb⟩; have HB1 := Aside0.mk (HB0.out.trans (hb.mono HB0.out.size)); have HT1 := Lib.hid (HT.out.below HB1.out h2); have h21 := Lib.hid (Nat.le_trans h2 HB1.out.size); clear hb)
  go_wp2_with (go_at_call 23; with_reducible refine (CT3.out _ HT1.out h21.out).mono ?_; rintro e' w2 ⟨rfl, hb⟩; have HB2 := Aside0.mk (HB1.out.trans (hb.mono HB1.out.size)); have HT2 := Lib.hid (HT.out.below HB2.out h2); have h22 := Lib.hid (Nat.le_trans h2 HB2.out.size); clear hb)
  go_wp2_with (go_at_call 23; with_reducible refine (CT1.out _ HT2.out h22.out).mono ?_; rintro e' w3 ⟨rfl, hb⟩; have HB3 := Aside0.mk (HB2.out.trans (hb.mono HB2.out.size)); have HT3 := Lib.hid (HT.out.below HB3.out h2); have h23 := Lib.hid (Nat.le_trans h2 HB3.out.size); clear hb)
  go_wp2_with (go_at_call 23; with_reducible refine (CT2.out _ HT3.out h23.out).mono ?_; rintro e' w4 ⟨rfl, hb⟩; have HB4 := Aside0.mk (HB3.out.trans (hb.mono HB3.out.size)); have HT4 := Lib.hid (HT.out.below HB4.out h2); have h24 := Lib.hid (Nat.le_trans h2 HB4.out.size); clear hb)
  go_wp2_with (go_at_call 21; with_reducible refine (CC1.out _ HT4.out h24.out).mono ?_; rintro e' w5 ⟨rfl, hb⟩; have HB5 := Aside0.mk (HB4.out.trans (hb.mono HB4.out.size)); have HT5 := Lib.hid (HT.out.below HB5.out h2); have h25 := Lib.hid (Nat.le_trans h2 HB5.out.size); clear hb)
  go_wp2_with (go_at_call 21; with_reducible refine (CC2.out _ HT5.out h25.out).mono ?_; rintro e' w6 ⟨rfl, hb⟩; have HB6 := Aside0.mk (HB5.out.trans (hb.mono HB5.out.size)); have HT6 := Lib.hid (HT.out.below HB6.out h2); have h26 := Lib.hid (Nat.le_trans h2 HB6.out.size); clear hb)
  go_wp2_with (go_at_call 23; with_reducible refine (CT1.out _ HT6.out h26.out).mono ?_; rintro e' w7 ⟨rfl, hb⟩; have HB7 := Aside0.mk (HB6.out.trans (hb.mono HB6.out.size)); have HT7 := Lib.hid (HT.out.below HB7.out h2); have h27 := Lib.hid (Nat.le_trans h2 HB7.out.size); clear hb)
  go_wp2_with (go_at_call 21; with_reducible refine (CC3.out _ HT7.out h27.out).mono ?_; rintro e' w8 ⟨rfl, hb⟩; have HB8 := Aside0.mk (HB7.out.trans (hb.mono HB7.out.size)); have HT8 := Lib.hid (HT.out.below HB8.out h2); have h28 := Lib.hid (Nat.le_trans h2 HB8.out.size); clear hb)
  go_wp2_with (go_at_call 23; with_reducible refine (CT1.out _ HT8.out h28.out).mono ?_; rintro e' w9 ⟨rfl, hb⟩; have HB9 := Aside0.mk (HB8.out.trans (hb.mono HB8.out.size)); have HT9 := Lib.hid (HT.out.below HB9.out h2); have h29 := Lib.hid (Nat.le_trans h2 HB9.out.size); clear hb)
  go_wp2_with (go_at_call 23; with_reducible refine (CT4.out _ HT9.out h29.out).mono ?_; rintro e' w10 ⟨rfl, hb⟩; have HB10 := Aside0.mk (HB9.out.trans (hb.mono HB9.out.size)); have HT10 := Lib.hid (HT.out.below HB10.out h2); have h210 := Lib.hid (Nat.le_trans h2 HB10.out.size); clear hb)
  go_wp2_with (go_at_call 26; with_reducible refine (CN.out _).mono ?_; rintro e' w11 ⟨rfl, hb⟩; have HB11 := Aside0.mk (HB10.out.trans (hb.mono HB10.out.size)); have HT11 := Lib.hid (HT.out.below HB11.out h2); have h211 := Lib.hid (Nat.le_trans h2 HB11.out.size); clear hb)
  go_wp2_with (go_at_call 18; with_reducible refine (COf.out _ HT11.out).mono ?_; rintro e' w12 ⟨rfl, hb⟩; have HB12 := Aside0.mk (HB11.out.trans (hb.mono HB11.out.size)); have HT12 := Lib.hid (HT.out.below HB12.out h2); have h212 := Lib.hid (Nat.le_trans h2 HB12.out.size); clear hb)
  go_wp2_with (go_at_call 20; with_reducible refine (awake02 _ HT12.out h212.out).mono ?_; rintro e' w13 ⟨rfl, hb⟩; have HB13 := Aside0.mk (HB12.out.trans (hb.mono HB12.out.size)); have HT13 := Lib.hid (HT.out.below HB13.out h2); have h213 := Lib.hid (Nat.le_trans h2 HB13.out.size); clear hb)
  go_ret
  exact ⟨rfl, HB13.out⟩

set_option maxRecDepth 100000 in
set_option maxHeartbeats 2000000 in
theorem wc_mo_all (s t : ByteArray) (q : Int) (m : Int) (w : World) (hs : s.size ≤ 268435455) (ht : t.size ≤ 268435455) (hq0 : -9223372036854775808 ≤ q) (hq1 : q ≤ 9223372036854775807) (hm0 : 0 ≤ m) (hm1 : m ≤ 255)
    (hA : q > 2147483647) (hwh : ¬ Pl.whole s = s.size) (c : Int) (hcq : c = Int.tmod q 2147483648) (hC : 0 ≤ c) (e e2 : Nat) (n n2 : Int) (he : Pl.cut s c = (e, n)) (he2 : Pl.cut s (c + m) = (e2, n2)) (hfull : e = s.size)
    (hw : WTabs w) (hu : Lib.Utf8Tabs 4 5 w) :
    Calls Tryd.prog 6 #[.string s, .string t, .int .i64 q, .int .u8 m] w fun e w' => e = .returned (.bool true) ∧ Below w.heap.size w w' := by
  have h6 : 6 ≤ w.heap.size := World.block_lt_of_cell? w _ (hu.2 0 (by decide)).1
  have h2 : 2 ≤ w.heap.size := by omega
  have HU := Lib.hid hu
  have HT := Lib.hid hw
  clear hu hw
  have hc1 : c ≤ 2147483647 := by
    have h1 : 0 ≤ Int.tmod q 2147483648 ∧ Int.tmod q 2147483648 < 2147483648 := ⟨Int.tmod_nonneg _ (by omega), Int.tmod_lt_of_pos _ (by omega)⟩; omega
  have hc0 : -9223372036854775808 ≤ c := by
    have h1 : 0 ≤ Int.tmod q 2147483648 := Int.tmod_nonneg _ (by omega); omega
  obtain ⟨ws, hws⟩ : ∃ x, Pl.wsum (Pl.pts (Pl.runes s 0)) = x := ⟨_, rfl⟩
  obtain ⟨wt, hwt⟩ : ∃ x, Pl.wsum (Pl.pts (Pl.runes t 0)) = x := ⟨_, rfl⟩
  have hls := Pl.runes_length s s.size 0 (by omega)
  have hlt := Pl.runes_length t t.size 0 (by omega)
  have hwsb : 0 ≤ ws ∧ ws ≤ 536870910 := by
    rw [← hws]
    have h1 := wsum_nonneg (Pl.pts (Pl.runes s 0)); have h2 := wsum_le (Pl.pts (Pl.runes s 0))
    rw [Pl.pts, List.length_map] at h2
    unfold Pl.pts at h1 ⊢
    omega
  have hwtb : 0 ≤ wt ∧ wt ≤ 536870910 := by
    rw [← hwt]
    have h1 := wsum_nonneg (Pl.pts (Pl.runes t 0)); have h2 := wsum_le (Pl.pts (Pl.runes t 0))
    rw [Pl.pts, List.length_map] at h2
    unfold Pl.pts at h1 ⊢
    omega
  have hw0 := hwsb.1; have hw1 := hwsb.2; have hv0 := hwtb.1; have hv1 := hwtb.2
  have hall := cut_said s ws hw0
  have hall2 : Pl.cut s ws = (s.size, ws) := by
    rw [← hws] at hall ⊢
    have := cut_all_said hall
    exact Prod.ext this.1 this.2
  have hd := cut_said s c hC
  rw [he] at hd
  have hd2 := cut_said s (c + m) (by omega)
  rw [he2] at hd2
  have hw12 := cut_wider hd hd2 (by omega)
  have hee : e ≤ e2 := hw12.1
  have hnn : n ≤ n2 := hw12.2
  have hes2 : e2 ≤ s.size := cut_in hd2
  have hes : e ≤ s.size := cut_in hd
  have hnt : n = Pl.wsum (Pl.pts (Pl.runes (s.extract 0 e) 0)) := cut_text hd
  have hn0 : 0 ≤ n := by rw [hnt]; exact wsum_nonneg _
  have hnc : n ≤ c := hd.le
  clear hd hd2 hw12
  have hsz : (s.extract 0 e).size = e := size_cut s e hes
  have hbb : (s.extract 0 e2).extract 0 e = s.extract 0 e := cut_both hee hes2
  have hsz2 : (s.extract 0 e2).size = e2 := size_cut s e2 hes2
  have hsall : s.extract 0 s.size = s := extract_all s
  have CW := Lib.hid (fun w h => whole_any s w (by omega) h)
  have CT1 := Lib.hid (fun w h h2 => wtext_any s w (by omega) h h2)
  have CT2 := Lib.hid (fun w h h2 => wtext_any t w (by omega) h h2)
  have CT4 := Lib.hid (fun w h h2 => wtext_any (s.extract 0 e) w (by rw [size_cut s e hes]; omega) h h2)
  have CC1 := Lib.hid (fun w h h2 => cut_calls s c w (by omega) (by omega) h h2)
  have CC2 := Lib.hid (fun w h h2 => cut_calls s (c + m) w (by omega) (by omega) h h2)
  have CC3 := Lib.hid (fun w h h2 => cut_calls s ws w (by omega) (by omega) h h2)
  rw [he] at CC1
  rw [he2] at CC2
  rw [hall2, hsall] at CC3
  rw [hws] at CT1
  rw [hwt] at CT2
  rw [← hnt] at CT4
  have hwb1 : ((Pl.whole s : Int) == (s.size : Int)) = false := by rw [beq_eq_false_iff_ne]; omega
  have hfb : ((e : Int) == (s.size : Int)) = true := by rw [beq_iff_eq]; omega
  have HB0 := Aside0.mk (Below.refl w.heap.size w)
  have HCQ := Lib.hid hcq
  have HWH := Lib.hid hwh
  clear hwh hnt hws hwt hall hall2 he he2 hls hlt hwsb hwtb hfull
  have hA1 : decide ((2147483647 : Int) < q) = true := decide_eq_true hA
  have hmod : Int.tmod q 2147483648 = c := hcq.symm
  clear hcq
  have hD1 : decide ((s.size : Int) < ((e : Nat) : Int)) = false := decide_eq_false (by omega)
  have hD1' : decide (s.size < e) = false := decide_eq_false (by omega)
  have hD2 : decide ((e2 : Int) < ((e : Nat) : Int)) = false := decide_eq_false (by omega)
  have hD2' : decide (e2 < e) = false := decide_eq_false (by omega)
  have hD3 : decide (n2 < n) = false := decide_eq_false (by omega)
  have hD4 : decide (n < (0 : Int)) = false := decide_eq_false (by omega)
  go_enter Tryd.func6, Tryd.ntmps6
  go_wp2_with (go_at_call 25; with_reducible refine (CW.out _ HU.out h6).mono ?_; rintro e' w1 ⟨rfl, hb⟩; have HB1 := Aside0.mk (HB0.out.trans (hb.mono HB0.out.size)); have HT1 := Lib.hid (HT.out.below HB1.out h2); have h21 := Lib.hid (Nat.le_trans h2 HB1.out.size); clear hb)
  go_wp2_with (go_at_call 21; with_reducible refine (CC1.out _ HT1.out h21.out).mono ?_; rintro e' w2 ⟨rfl, hb⟩; have HB2 := Aside0.mk (HB1.out.trans (hb.mono HB1.out.size)); have HT2 := Lib.hid (HT.out.below HB2.out h2); have h22 := Lib.hid (Nat.le_trans h2 HB2.out.size); clear hb)
  go_wp2_with (go_at_call 21; with_reducible refine (CC2.out _ HT2.out h22.out).mono ?_; rintro e' w3 ⟨rfl, hb⟩; have HB3 := Aside0.mk (HB2.out.trans (hb.mono HB2.out.size)); have HT3 := Lib.hid (HT.out.below HB3.out h2); have h23 := Lib.hid (Nat.le_trans h2 HB3.out.size); clear hb)
  go_wp2_with (go_at_call 23; with_reducible refine (CT1.out _ HT3.out h23.out).mono ?_; rintro e' w4 ⟨rfl, hb⟩; have HB4 := Aside0.mk (HB3.out.trans (hb.mono HB3.out.size)); have HT4 := Lib.hid (HT.out.below HB4.out h2); have h24 := Lib.hid (Nat.le_trans h2 HB4.out.size); clear hb)
  go_wp2_with (go_at_call 21; with_reducible refine (CC3.out _ HT4.out h24.out).mono ?_; rintro e' w5 ⟨rfl, hb⟩; have HB5 := Aside0.mk (HB4.out.trans (hb.mono HB4.out.size)); have HT5 := Lib.hid (HT.out.below HB5.out h2); have h25 := Lib.hid (Nat.le_trans h2 HB5.out.size); clear hb)
  go_wp2_with (go_at_call 23; with_reducible refine (CT1.out _ HT5.out h25.out).mono ?_; rintro e' w6 ⟨rfl, hb⟩; have HB6 := Aside0.mk (HB5.out.trans (hb.mono HB5.out.size)); have HT6 := Lib.hid (HT.out.below HB6.out h2); have h26 := Lib.hid (Nat.le_trans h2 HB6.out.size); clear hb)
  go_wp2_with (go_at_call 23; with_reducible refine (CT4.out _ HT6.out h26.out).mono ?_; rintro e' w7 ⟨rfl, hb⟩; have HB7 := Aside0.mk (HB6.out.trans (hb.mono HB6.out.size)); have HT7 := Lib.hid (HT.out.below HB7.out h2); have h27 := Lib.hid (Nat.le_trans h2 HB7.out.size); clear hb)
  go_wp2_with (go_at_call 20; with_reducible refine (awake02 _ HT7.out h27.out).mono ?_; rintro e' w8 ⟨rfl, hb⟩; have HB8 := Aside0.mk (HB7.out.trans (hb.mono HB7.out.size)); have HT8 := Lib.hid (HT.out.below HB8.out h2); have h28 := Lib.hid (Nat.le_trans h2 HB8.out.size); clear hb)
  go_ret
  exact ⟨rfl, HB8.out⟩

set_option maxRecDepth 100000 in
set_option maxHeartbeats 2000000 in
theorem wc_mo_good (s t : ByteArray) (q : Int) (m : Int) (w : World) (hs : s.size ≤ 268435455) (ht : t.size ≤ 268435455) (hq0 : -9223372036854775808 ≤ q) (hq1 : q ≤ 9223372036854775807) (hm0 : 0 ≤ m) (hm1 : m ≤ 255)
    (hA : q > 2147483647) (hwh : ¬ Pl.whole s = s.size) (c : Int) (hcq : c = Int.tmod q 2147483648) (hC : 0 ≤ c) (e e2 : Nat) (n n2 : Int) (he : Pl.cut s c = (e, n)) (he2 : Pl.cut s (c + m) = (e2, n2)) (hfull : e < s.size) (hok : Pl.ok s e)
    (hw : WTabs w) (hu : Lib.Utf8Tabs 4 5 w) :
    Calls Tryd.prog 6 #[.string s, .string t, .int .i64 q, .int .u8 m] w fun e w' => e = .returned (.bool true) ∧ Below w.heap.size w w' := by
  have h6 : 6 ≤ w.heap.size := World.block_lt_of_cell? w _ (hu.2 0 (by decide)).1
  have h2 : 2 ≤ w.heap.size := by omega
  have HU := Lib.hid hu
  have HT := Lib.hid hw
  clear hu hw
  have hc1 : c ≤ 2147483647 := by
    have h1 : 0 ≤ Int.tmod q 2147483648 ∧ Int.tmod q 2147483648 < 2147483648 := ⟨Int.tmod_nonneg _ (by omega), Int.tmod_lt_of_pos _ (by omega)⟩; omega
  have hc0 : -9223372036854775808 ≤ c := by
    have h1 : 0 ≤ Int.tmod q 2147483648 := Int.tmod_nonneg _ (by omega); omega
  obtain ⟨ws, hws⟩ : ∃ x, Pl.wsum (Pl.pts (Pl.runes s 0)) = x := ⟨_, rfl⟩
  obtain ⟨wt, hwt⟩ : ∃ x, Pl.wsum (Pl.pts (Pl.runes t 0)) = x := ⟨_, rfl⟩
  have hls := Pl.runes_length s s.size 0 (by omega)
  have hlt := Pl.runes_length t t.size 0 (by omega)
  have hwsb : 0 ≤ ws ∧ ws ≤ 536870910 := by
    rw [← hws]
    have h1 := wsum_nonneg (Pl.pts (Pl.runes s 0)); have h2 := wsum_le (Pl.pts (Pl.runes s 0))
    rw [Pl.pts, List.length_map] at h2
    unfold Pl.pts at h1 ⊢
    omega
  have hwtb : 0 ≤ wt ∧ wt ≤ 536870910 := by
    rw [← hwt]
    have h1 := wsum_nonneg (Pl.pts (Pl.runes t 0)); have h2 := wsum_le (Pl.pts (Pl.runes t 0))
    rw [Pl.pts, List.length_map] at h2
    unfold Pl.pts at h1 ⊢
    omega
  have hw0 := hwsb.1; have hw1 := hwsb.2; have hv0 := hwtb.1; have hv1 := hwtb.2
  have hall := cut_said s ws hw0
  have hall2 : Pl.cut s ws = (s.size, ws) := by
    rw [← hws] at hall ⊢
    have := cut_all_said hall
    exact Prod.ext this.1 this.2
  have hd := cut_said s c hC
  rw [he] at hd
  have hd2 := cut_said s (c + m) (by omega)
  rw [he2] at hd2
  have hw12 := cut_wider hd hd2 (by omega)
  have hee : e ≤ e2 := hw12.1
  have hnn : n ≤ n2 := hw12.2
  have hes2 : e2 ≤ s.size := cut_in hd2
  have hes : e ≤ s.size := cut_in hd
  have hnt : n = Pl.wsum (Pl.pts (Pl.runes (s.extract 0 e) 0)) := cut_text hd
  have hn0 : 0 ≤ n := by rw [hnt]; exact wsum_nonneg _
  have hnc : n ≤ c := hd.le
  have hgt : n + Pl.widthOf ((Utf8.decode s e).1 : Int) > c := hd.full hfull
  have hwb := Pl.widthOf_bd ((Utf8.decode s e).1 : Int)
  have hpt := i64_dec s e hfull
  clear hd hd2 hw12
  have hsz : (s.extract 0 e).size = e := size_cut s e hes
  have hbb : (s.extract 0 e2).extract 0 e = s.extract 0 e := cut_both hee hes2
  have hsz2 : (s.extract 0 e2).size = e2 := size_cut s e2 hes2
  have hsall : s.extract 0 s.size = s := extract_all s
  have CW := Lib.hid (fun w h => whole_any s w (by omega) h)
  have CT1 := Lib.hid (fun w h h2 => wtext_any s w (by omega) h h2)
  have CT2 := Lib.hid (fun w h h2 => wtext_any t w (by omega) h h2)
  have CT4 := Lib.hid (fun w h h2 => wtext_any (s.extract 0 e) w (by rw [size_cut s e hes]; omega) h h2)
  have CC1 := Lib.hid (fun w h h2 => cut_calls s c w (by omega) (by omega) h h2)
  have CC2 := Lib.hid (fun w h h2 => cut_calls s (c + m) w (by omega) (by omega) h h2)
  have CC3 := Lib.hid (fun w h h2 => cut_calls s ws w (by omega) (by omega) h h2)
  rw [he] at CC1
  rw [he2] at CC2
  rw [hall2, hsall] at CC3
  rw [hws] at CT1
  rw [hwt] at CT2
  rw [← hnt] at CT4
  have hwb1 : ((Pl.whole s : Int) == (s.size : Int)) = false := by rw [beq_eq_false_iff_ne]; omega
  have CN0 : ∀ w, _ := fun w => next_any s (e : Int) w (by omega)
  have en : Pl.next s (e : Int) = (((Utf8.decode s e).1 : Int), ((Utf8.decode s e).2 : Int), Pl.good s e) := by unfold Pl.next; rw [if_pos (by omega), Int.toNat_natCast]
  rw [en, show Pl.good s e = true from decide_eq_true hok] at CN0
  have CN := Lib.hid CN0
  have COf := Lib.hid (fun w h => of_any ((Utf8.decode s e).1 : Int) w h)
  clear CN0 en
  have hfb : ((e : Int) == (s.size : Int)) = false := by rw [beq_eq_false_iff_ne]; omega
  have hok' := Lib.hid hok
  clear hok
  have HB0 := Aside0.mk (Below.refl w.heap.size w)
  have HCQ := Lib.hid hcq
  have HWH := Lib.hid hwh
  clear hwh hnt hws hwt hall hall2 he he2 hls hlt hwsb hwtb
  have hA1 : decide ((2147483647 : Int) < q) = true := decide_eq_true hA
  have hmod : Int.tmod q 2147483648 = c := hcq.symm
  clear hcq
  have hD1 : decide ((s.size : Int) < ((e : Nat) : Int)) = false := decide_eq_false (by omega)
  have hD1' : decide (s.size < e) = false := decide_eq_false (by omega)
  have hD2 : decide ((e2 : Int) < ((e : Nat) : Int)) = false := decide_eq_false (by omega)
  have hD2' : decide (e2 < e) = false := decide_eq_false (by omega)
  have hD3 : decide (n2 < n) = false := decide_eq_false (by omega)
  have hD4 : decide (n < (0 : Int)) = false := decide_eq_false (by omega)
  go_enter Tryd.func6, Tryd.ntmps6
  go_wp2_with (go_at_call 25; with_reducible refine (CW.out _ HU.out h6).mono ?_; rintro e' w1 ⟨rfl, hb⟩; have HB1 := Aside0.mk (HB0.out.trans (hb.mono HB0.out.size)); have HT1 := Lib.hid (HT.out.below HB1.out h2); have h21 := Lib.hid (Nat.le_trans h2 HB1.out.size); clear hb)
  go_wp2_with (go_at_call 21; with_reducible refine (CC1.out _ HT1.out h21.out).mono ?_; rintro e' w2 ⟨rfl, hb⟩; have HB2 := Aside0.mk (HB1.out.trans (hb.mono HB1.out.size)); have HT2 := Lib.hid (HT.out.below HB2.out h2); have h22 := Lib.hid (Nat.le_trans h2 HB2.out.size); clear hb)
  go_wp2_with (go_at_call 21; with_reducible refine (CC2.out _ HT2.out h22.out).mono ?_; rintro e' w3 ⟨rfl, hb⟩; have HB3 := Aside0.mk (HB2.out.trans (hb.mono HB2.out.size)); have HT3 := Lib.hid (HT.out.below HB3.out h2); have h23 := Lib.hid (Nat.le_trans h2 HB3.out.size); clear hb)
  go_wp2_with (go_at_call 23; with_reducible refine (CT1.out _ HT3.out h23.out).mono ?_; rintro e' w4 ⟨rfl, hb⟩; have HB4 := Aside0.mk (HB3.out.trans (hb.mono HB3.out.size)); have HT4 := Lib.hid (HT.out.below HB4.out h2); have h24 := Lib.hid (Nat.le_trans h2 HB4.out.size); clear hb)
  go_wp2_with (go_at_call 21; with_reducible refine (CC3.out _ HT4.out h24.out).mono ?_; rintro e' w5 ⟨rfl, hb⟩; have HB5 := Aside0.mk (HB4.out.trans (hb.mono HB4.out.size)); have HT5 := Lib.hid (HT.out.below HB5.out h2); have h25 := Lib.hid (Nat.le_trans h2 HB5.out.size); clear hb)
  go_wp2_with (go_at_call 23; with_reducible refine (CT1.out _ HT5.out h25.out).mono ?_; rintro e' w6 ⟨rfl, hb⟩; have HB6 := Aside0.mk (HB5.out.trans (hb.mono HB5.out.size)); have HT6 := Lib.hid (HT.out.below HB6.out h2); have h26 := Lib.hid (Nat.le_trans h2 HB6.out.size); clear hb)
  go_wp2_with (go_at_call 23; with_reducible refine (CT4.out _ HT6.out h26.out).mono ?_; rintro e' w7 ⟨rfl, hb⟩; have HB7 := Aside0.mk (HB6.out.trans (hb.mono HB6.out.size)); have HT7 := Lib.hid (HT.out.below HB7.out h2); have h27 := Lib.hid (Nat.le_trans h2 HB7.out.size); clear hb)
  go_wp2_with (go_at_call 26; with_reducible refine (CN.out _).mono ?_; rintro e' w8 ⟨rfl, hb⟩; have HB8 := Aside0.mk (HB7.out.trans (hb.mono HB7.out.size)); have HT8 := Lib.hid (HT.out.below HB8.out h2); have h28 := Lib.hid (Nat.le_trans h2 HB8.out.size); clear hb)
  go_wp2_with (go_at_call 18; with_reducible refine (COf.out _ HT8.out).mono ?_; rintro e' w9 ⟨rfl, hb⟩; have HB9 := Aside0.mk (HB8.out.trans (hb.mono HB8.out.size)); have HT9 := Lib.hid (HT.out.below HB9.out h2); have h29 := Lib.hid (Nat.le_trans h2 HB9.out.size); clear hb)
  go_wp2_with (go_at_call 20; with_reducible refine (awake02 _ HT9.out h29.out).mono ?_; rintro e' w10 ⟨rfl, hb⟩; have HB10 := Aside0.mk (HB9.out.trans (hb.mono HB9.out.size)); have HT10 := Lib.hid (HT.out.below HB10.out h2); have h210 := Lib.hid (Nat.le_trans h2 HB10.out.size); clear hb)
  go_ret
  exact ⟨rfl, HB10.out⟩

set_option maxRecDepth 100000 in
set_option maxHeartbeats 2000000 in
theorem wc_mo_bad (s t : ByteArray) (q : Int) (m : Int) (w : World) (hs : s.size ≤ 268435455) (ht : t.size ≤ 268435455) (hq0 : -9223372036854775808 ≤ q) (hq1 : q ≤ 9223372036854775807) (hm0 : 0 ≤ m) (hm1 : m ≤ 255)
    (hA : q > 2147483647) (hwh : ¬ Pl.whole s = s.size) (c : Int) (hcq : c = Int.tmod q 2147483648) (hC : 0 ≤ c) (e e2 : Nat) (n n2 : Int) (he : Pl.cut s c = (e, n)) (he2 : Pl.cut s (c + m) = (e2, n2)) (hfull : e < s.size) (hok : ¬ Pl.ok s e)
    (hw : WTabs w) (hu : Lib.Utf8Tabs 4 5 w) :
    Calls Tryd.prog 6 #[.string s, .string t, .int .i64 q, .int .u8 m] w fun e w' => e = .returned (.bool true) ∧ Below w.heap.size w w' := by
  have h6 : 6 ≤ w.heap.size := World.block_lt_of_cell? w _ (hu.2 0 (by decide)).1
  have h2 : 2 ≤ w.heap.size := by omega
  have HU := Lib.hid hu
  have HT := Lib.hid hw
  clear hu hw
  have hc1 : c ≤ 2147483647 := by
    have h1 : 0 ≤ Int.tmod q 2147483648 ∧ Int.tmod q 2147483648 < 2147483648 := ⟨Int.tmod_nonneg _ (by omega), Int.tmod_lt_of_pos _ (by omega)⟩; omega
  have hc0 : -9223372036854775808 ≤ c := by
    have h1 : 0 ≤ Int.tmod q 2147483648 := Int.tmod_nonneg _ (by omega); omega
  obtain ⟨ws, hws⟩ : ∃ x, Pl.wsum (Pl.pts (Pl.runes s 0)) = x := ⟨_, rfl⟩
  obtain ⟨wt, hwt⟩ : ∃ x, Pl.wsum (Pl.pts (Pl.runes t 0)) = x := ⟨_, rfl⟩
  have hls := Pl.runes_length s s.size 0 (by omega)
  have hlt := Pl.runes_length t t.size 0 (by omega)
  have hwsb : 0 ≤ ws ∧ ws ≤ 536870910 := by
    rw [← hws]
    have h1 := wsum_nonneg (Pl.pts (Pl.runes s 0)); have h2 := wsum_le (Pl.pts (Pl.runes s 0))
    rw [Pl.pts, List.length_map] at h2
    unfold Pl.pts at h1 ⊢
    omega
  have hwtb : 0 ≤ wt ∧ wt ≤ 536870910 := by
    rw [← hwt]
    have h1 := wsum_nonneg (Pl.pts (Pl.runes t 0)); have h2 := wsum_le (Pl.pts (Pl.runes t 0))
    rw [Pl.pts, List.length_map] at h2
    unfold Pl.pts at h1 ⊢
    omega
  have hw0 := hwsb.1; have hw1 := hwsb.2; have hv0 := hwtb.1; have hv1 := hwtb.2
  have hall := cut_said s ws hw0
  have hall2 : Pl.cut s ws = (s.size, ws) := by
    rw [← hws] at hall ⊢
    have := cut_all_said hall
    exact Prod.ext this.1 this.2
  have hd := cut_said s c hC
  rw [he] at hd
  have hd2 := cut_said s (c + m) (by omega)
  rw [he2] at hd2
  have hw12 := cut_wider hd hd2 (by omega)
  have hee : e ≤ e2 := hw12.1
  have hnn : n ≤ n2 := hw12.2
  have hes2 : e2 ≤ s.size := cut_in hd2
  have hes : e ≤ s.size := cut_in hd
  have hnt : n = Pl.wsum (Pl.pts (Pl.runes (s.extract 0 e) 0)) := cut_text hd
  have hn0 : 0 ≤ n := by rw [hnt]; exact wsum_nonneg _
  have hnc : n ≤ c := hd.le
  have hgt : n + Pl.widthOf ((Utf8.decode s e).1 : Int) > c := hd.full hfull
  have hwb := Pl.widthOf_bd ((Utf8.decode s e).1 : Int)
  have hpt := i64_dec s e hfull
  clear hd hd2 hw12
  have hsz : (s.extract 0 e).size = e := size_cut s e hes
  have hbb : (s.extract 0 e2).extract 0 e = s.extract 0 e := cut_both hee hes2
  have hsz2 : (s.extract 0 e2).size = e2 := size_cut s e2 hes2
  have hsall : s.extract 0 s.size = s := extract_all s
  have CW := Lib.hid (fun w h => whole_any s w (by omega) h)
  have CT1 := Lib.hid (fun w h h2 => wtext_any s w (by omega) h h2)
  have CT2 := Lib.hid (fun w h h2 => wtext_any t w (by omega) h h2)
  have CT4 := Lib.hid (fun w h h2 => wtext_any (s.extract 0 e) w (by rw [size_cut s e hes]; omega) h h2)
  have CC1 := Lib.hid (fun w h h2 => cut_calls s c w (by omega) (by omega) h h2)
  have CC2 := Lib.hid (fun w h h2 => cut_calls s (c + m) w (by omega) (by omega) h h2)
  have CC3 := Lib.hid (fun w h h2 => cut_calls s ws w (by omega) (by omega) h h2)
  rw [he] at CC1
  rw [he2] at CC2
  rw [hall2, hsall] at CC3
  rw [hws] at CT1
  rw [hwt] at CT2
  rw [← hnt] at CT4
  have hwb1 : ((Pl.whole s : Int) == (s.size : Int)) = false := by rw [beq_eq_false_iff_ne]; omega
  have CN0 : ∀ w, _ := fun w => next_any s (e : Int) w (by omega)
  have en : Pl.next s (e : Int) = (((Utf8.decode s e).1 : Int), ((Utf8.decode s e).2 : Int), Pl.good s e) := by unfold Pl.next; rw [if_pos (by omega), Int.toNat_natCast]
  rw [en, show Pl.good s e = false from decide_eq_false hok] at CN0
  have CN := Lib.hid CN0
  have COf := Lib.hid (fun w h => of_any ((Utf8.decode s e).1 : Int) w h)
  clear CN0 en
  have hb3 := (Pl.bad_iff s e hfull).2 hok
  have hrb : (((Utf8.decode s e).1 : Int) != 65533) = false := by rw [bne_eq_false_iff_eq]; omega
  have hnb : (((Utf8.decode s e).2 : Int) != 1) = false := by rw [bne_eq_false_iff_eq]; omega
  clear hb3
  have hfb : ((e : Int) == (s.size : Int)) = false := by rw [beq_eq_false_iff_ne]; omega
  have hok' := Lib.hid hok
  clear hok
  have HB0 := Aside0.mk (Below.refl w.heap.size w)
  have HCQ := Lib.hid hcq
  have HWH := Lib.hid hwh
  clear hwh hnt hws hwt hall hall2 he he2 hls hlt hwsb hwtb
  have hA1 : decide ((2147483647 : Int) < q) = true := decide_eq_true hA
  have hmod : Int.tmod q 2147483648 = c := hcq.symm
  clear hcq
  have hD1 : decide ((s.size : Int) < ((e : Nat) : Int)) = false := decide_eq_false (by omega)
  have hD1' : decide (s.size < e) = false := decide_eq_false (by omega)
  have hD2 : decide ((e2 : Int) < ((e : Nat) : Int)) = false := decide_eq_false (by omega)
  have hD2' : decide (e2 < e) = false := decide_eq_false (by omega)
  have hD3 : decide (n2 < n) = false := decide_eq_false (by omega)
  have hD4 : decide (n < (0 : Int)) = false := decide_eq_false (by omega)
  go_enter Tryd.func6, Tryd.ntmps6
  go_wp2_with (go_at_call 25; with_reducible refine (CW.out _ HU.out h6).mono ?_; rintro e' w1 ⟨rfl, hb⟩; have HB1 := Aside0.mk (HB0.out.trans (hb.mono HB0.out.size)); have HT1 := Lib.hid (HT.out.below HB1.out h2); have h21 := Lib.hid (Nat.le_trans h2 HB1.out.size); clear hb)
  go_wp2_with (go_at_call 21; with_reducible refine (CC1.out _ HT1.out h21.out).mono ?_; rintro e' w2 ⟨rfl, hb⟩; have HB2 := Aside0.mk (HB1.out.trans (hb.mono HB1.out.size)); have HT2 := Lib.hid (HT.out.below HB2.out h2); have h22 := Lib.hid (Nat.le_trans h2 HB2.out.size); clear hb)
  go_wp2_with (go_at_call 21; with_reducible refine (CC2.out _ HT2.out h22.out).mono ?_; rintro e' w3 ⟨rfl, hb⟩; have HB3 := Aside0.mk (HB2.out.trans (hb.mono HB2.out.size)); have HT3 := Lib.hid (HT.out.below HB3.out h2); have h23 := Lib.hid (Nat.le_trans h2 HB3.out.size); clear hb)
  go_wp2_with (go_at_call 23; with_reducible refine (CT1.out _ HT3.out h23.out).mono ?_; rintro e' w4 ⟨rfl, hb⟩; have HB4 := Aside0.mk (HB3.out.trans (hb.mono HB3.out.size)); have HT4 := Lib.hid (HT.out.below HB4.out h2); have h24 := Lib.hid (Nat.le_trans h2 HB4.out.size); clear hb)
  go_wp2_with (go_at_call 21; with_reducible refine (CC3.out _ HT4.out h24.out).mono ?_; rintro e' w5 ⟨rfl, hb⟩; have HB5 := Aside0.mk (HB4.out.trans (hb.mono HB4.out.size)); have HT5 := Lib.hid (HT.out.below HB5.out h2); have h25 := Lib.hid (Nat.le_trans h2 HB5.out.size); clear hb)
  go_wp2_with (go_at_call 23; with_reducible refine (CT1.out _ HT5.out h25.out).mono ?_; rintro e' w6 ⟨rfl, hb⟩; have HB6 := Aside0.mk (HB5.out.trans (hb.mono HB5.out.size)); have HT6 := Lib.hid (HT.out.below HB6.out h2); have h26 := Lib.hid (Nat.le_trans h2 HB6.out.size); clear hb)
  go_wp2_with (go_at_call 23; with_reducible refine (CT4.out _ HT6.out h26.out).mono ?_; rintro e' w7 ⟨rfl, hb⟩; have HB7 := Aside0.mk (HB6.out.trans (hb.mono HB6.out.size)); have HT7 := Lib.hid (HT.out.below HB7.out h2); have h27 := Lib.hid (Nat.le_trans h2 HB7.out.size); clear hb)
  go_wp2_with (go_at_call 26; with_reducible refine (CN.out _).mono ?_; rintro e' w8 ⟨rfl, hb⟩; have HB8 := Aside0.mk (HB7.out.trans (hb.mono HB7.out.size)); have HT8 := Lib.hid (HT.out.below HB8.out h2); have h28 := Lib.hid (Nat.le_trans h2 HB8.out.size); clear hb)
  go_wp2_with (go_at_call 18; with_reducible refine (COf.out _ HT8.out).mono ?_; rintro e' w9 ⟨rfl, hb⟩; have HB9 := Aside0.mk (HB8.out.trans (hb.mono HB8.out.size)); have HT9 := Lib.hid (HT.out.below HB9.out h2); have h29 := Lib.hid (Nat.le_trans h2 HB9.out.size); clear hb)
  go_wp2_with (go_at_call 20; with_reducible refine (awake02 _ HT9.out h29.out).mono ?_; rintro e' w10 ⟨rfl, hb⟩; have HB10 := Aside0.mk (HB9.out.trans (hb.mono HB9.out.size)); have HT10 := Lib.hid (HT.out.below HB10.out h2); have h210 := Lib.hid (Nat.le_trans h2 HB10.out.size); clear hb)
  go_ret
  exact ⟨rfl, HB10.out⟩

set_option maxRecDepth 100000 in
theorem widthCuts_walk (s t : ByteArray) (q : Int) (m : Int) (w : World) (hs : s.size ≤ 140737488351232) (ht : t.size ≤ 140737488351232) (hq0 : -9223372036854775808 ≤ q) (hq1 : q ≤ 9223372036854775807) (hm0 : 0 ≤ m) (hm1 : m ≤ 255) (hw : WTabs w) (hu : Lib.Utf8Tabs 4 5 w) :
    Calls Tryd.prog 6 #[.string s, .string t, .int .i64 q, .int .u8 m] w fun e w' => e = .returned (.bool true) ∧ Below w.heap.size w w' := by
  by_cases hl : s.size ≤ 268435455
  · by_cases hl2 : t.size ≤ 268435455
    · by_cases hA : q ≤ 2147483647
      · obtain ⟨⟨e, n⟩, he⟩ : ∃ x, Pl.cut s (q) = x := ⟨_, rfl⟩
        obtain ⟨⟨e2, n2⟩, he2⟩ : ∃ x, Pl.cut s (q + m) = x := ⟨_, rfl⟩
        by_cases hwh : Pl.whole s = s.size
        · by_cases hC : q < 0
          · exact wc_pw_neg s t q m w hl hl2 hq0 hq1 hm0 hm1 hA hwh _ rfl hC e e2 n n2 he he2 hw hu
          · have hC1 : 0 ≤ q := by omega
            have hin := cut_in (cut_said s (q) hC1)
            rw [he] at hin
            by_cases hf : e < s.size
            · by_cases hok : Pl.ok s e
              · exact wc_pw_good s t q m w hl hl2 hq0 hq1 hm0 hm1 hA hwh _ rfl hC1 e e2 n n2 he he2 hf hok hw hu
              · exact wc_pw_bad s t q m w hl hl2 hq0 hq1 hm0 hm1 hA hwh _ rfl hC1 e e2 n n2 he he2 hf hok hw hu
            · have hf' : e = s.size := by have : e ≤ s.size := hin; omega
              exact wc_pw_all s t q m w hl hl2 hq0 hq1 hm0 hm1 hA hwh _ rfl hC1 e e2 n n2 he he2 hf' hw hu
        · by_cases hC : q < 0
          · exact wc_po_neg s t q m w hl hl2 hq0 hq1 hm0 hm1 hA hwh _ rfl hC e e2 n n2 he he2 hw hu
          · have hC1 : 0 ≤ q := by omega
            have hin := cut_in (cut_said s (q) hC1)
            rw [he] at hin
            by_cases hf : e < s.size
            · by_cases hok : Pl.ok s e
              · exact wc_po_good s t q m w hl hl2 hq0 hq1 hm0 hm1 hA hwh _ rfl hC1 e e2 n n2 he he2 hf hok hw hu
              · exact wc_po_bad s t q m w hl hl2 hq0 hq1 hm0 hm1 hA hwh _ rfl hC1 e e2 n n2 he he2 hf hok hw hu
            · have hf' : e = s.size := by have : e ≤ s.size := hin; omega
              exact wc_po_all s t q m w hl hl2 hq0 hq1 hm0 hm1 hA hwh _ rfl hC1 e e2 n n2 he he2 hf' hw hu
      · obtain ⟨⟨e, n⟩, he⟩ : ∃ x, Pl.cut s (Int.tmod q 2147483648) = x := ⟨_, rfl⟩
        have hA' : q > 2147483647 := by omega
        have hC0 : 0 ≤ Int.tmod q 2147483648 := Int.tmod_nonneg _ (by omega)
        obtain ⟨⟨e2, n2⟩, he2⟩ : ∃ x, Pl.cut s (Int.tmod q 2147483648 + m) = x := ⟨_, rfl⟩
        by_cases hwh : Pl.whole s = s.size
        · have hC1 := hC0
          have hin := cut_in (cut_said s (Int.tmod q 2147483648) hC1)
          rw [he] at hin
          by_cases hf : e < s.size
          · by_cases hok : Pl.ok s e
            · exact wc_mw_good s t q m w hl hl2 hq0 hq1 hm0 hm1 hA' hwh _ rfl hC1 e e2 n n2 he he2 hf hok hw hu
            · exact wc_mw_bad s t q m w hl hl2 hq0 hq1 hm0 hm1 hA' hwh _ rfl hC1 e e2 n n2 he he2 hf hok hw hu
          · have hf' : e = s.size := by have : e ≤ s.size := hin; omega
            exact wc_mw_all s t q m w hl hl2 hq0 hq1 hm0 hm1 hA' hwh _ rfl hC1 e e2 n n2 he he2 hf' hw hu
        · have hC1 := hC0
          have hin := cut_in (cut_said s (Int.tmod q 2147483648) hC1)
          rw [he] at hin
          by_cases hf : e < s.size
          · by_cases hok : Pl.ok s e
            · exact wc_mo_good s t q m w hl hl2 hq0 hq1 hm0 hm1 hA' hwh _ rfl hC1 e e2 n n2 he he2 hf hok hw hu
            · exact wc_mo_bad s t q m w hl hl2 hq0 hq1 hm0 hm1 hA' hwh _ rfl hC1 e e2 n n2 he he2 hf hok hw hu
          · have hf' : e = s.size := by have : e ≤ s.size := hin; omega
            exact wc_mo_all s t q m w hl hl2 hq0 hq1 hm0 hm1 hA' hwh _ rfl hC1 e e2 n n2 he he2 hf' hw hu
    · have hl' : (268435455 : Int) < t.size := by omega
      have hl2' : (s.size : Int) ≤ 268435455 := by omega
      go_enter Tryd.func6, Tryd.ntmps6
      go_wp2
      go_ret
      exact ⟨rfl, Below.refl _ _⟩
  · have hl' : (268435455 : Int) < s.size := by omega
    go_enter Tryd.func6, Tryd.ntmps6
    go_wp2
    go_ret
    exact ⟨rfl, Below.refl _ _⟩
end Go.Proofs.YtocijojjfcpaoaaDoor

