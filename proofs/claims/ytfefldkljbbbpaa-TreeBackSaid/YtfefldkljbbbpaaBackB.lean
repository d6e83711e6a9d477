/- TreeBack: the walk. -/
import Derived.Test.YtfefldkljbbbpaaBackA
import Derived.Test.YtfefldkljbbbpaaBox
import Derived.BigQuiet
import Derived.Deep.QuietTactic
set_option linter.unusedVariables false
set_option linter.unusedSimpArgs false
namespace Go.Proofs.Ytfefldkljbbbpaa
open Go.RowKit Go.Shelf Go.Proofs.YtfefldkljbbbpaaW.PrintWords Go.Proofs.YtfefldkljbbbpaaW.PrintLast Go.Proofs.YtfefldkljbbbpaaW.PrintMore

set_option maxRecDepth 100000 in
set_option maxHeartbeats 1000000 in
theorem treeBack_main (l : List Ev) (x : Nd) (A0 A : Option Addr) (c0 c : Nat) (W : World) (hr : Kd.C kEv W A0 l.length l) (hl : l.length ≤ 16777216) (hlc0 : l.length ≤ c0) (hC : Kd.C kNd W A x.f2.length x.f2) (hlc : x.f2.length ≤ c) :
    Calls Try.prog 5 #[.slice A0 l.length c0, .agg #[.int .u8 x.f0, .int .u8 x.f1.f0, .string x.f1.f1, .int .i64 x.f1.f2.f0, .int .i64 x.f1.f2.f1, .int .i64 x.f1.f2.f2, .int .i64 x.f1.f3, .slice A x.f2.length c]] W fun e w' => e = .returned (.bool true) ∧ Below W.heap.size W w' := by
  have d1 : decide ((16777216 : Int) < l.length) = false := decide_eq_false (by omega)
  have d2 : decide (16777216 < l.length) = false := decide_eq_false (by omega)
  have HAW := Lib.hid awake13
  obtain ⟨kw, r, hw, hwr⟩ := weight_all x
  obtain ⟨W1, hW1⟩ : ∃ V, W.alloc (.cells #[.int .u8 x.f0, .int .u8 x.f1.f0, .string x.f1.f1, .int .i64 x.f1.f2.f0, .int .i64 x.f1.f2.f1, .int .i64 x.f1.f2.f2, .int .i64 x.f1.f3, .slice A x.f2.length c] TN) = V := ⟨_, rfl⟩
  have hb1 : Below W.heap.size W W1 := by rw [← hW1]; exact (Below.refl _ W).alloc (Nat.le_refl _) _
  have hx1 : W1.heap[W.heap.size]? = some (.cells #[.int .u8 x.f0, .int .u8 x.f1.f0, .string x.f1.f1, .int .i64 x.f1.f2.f0, .int .i64 x.f1.f2.f1, .int .i64 x.f1.f2.f2, .int .i64 x.f1.f3, .slice A x.f2.length c] TN) := by rw [← hW1]; exact World.alloc_heap_new _ _
  have hbox : ∀ V, Below W1.heap.size W1 V → V.cell? ⟨W.heap.size, 0, none⟩ = some (.int .u8 x.f0) ∧ V.cell? ⟨W.heap.size, 1, none⟩ = some (.int .u8 x.f1.f0) ∧ V.cell? ⟨W.heap.size, 2, none⟩ = some (.string x.f1.f1) ∧ V.cell? ⟨W.heap.size, 3, none⟩ = some (.int .i64 x.f1.f2.f0) ∧ V.cell? ⟨W.heap.size, 4, none⟩ = some (.int .i64 x.f1.f2.f1) ∧ V.cell? ⟨W.heap.size, 5, none⟩ = some (.int .i64 x.f1.f2.f2) ∧ V.cell? ⟨W.heap.size, 6, none⟩ = some (.int .i64 x.f1.f3) ∧ V.cell? ⟨W.heap.size, 7, none⟩ = some (.slice A x.f2.length c) := fun V hV =>
    ⟨pw_cell_below hV (cell_of_row _ _ _ _ _ _ hx1), pw_cell_below hV (cell_of_row _ _ _ _ _ _ hx1), pw_cell_below hV (cell_of_row _ _ _ _ _ _ hx1), pw_cell_below hV (cell_of_row _ _ _ _ _ _ hx1), pw_cell_below hV (cell_of_row _ _ _ _ _ _ hx1), pw_cell_below hV (cell_of_row _ _ _ _ _ _ hx1), pw_cell_below hV (cell_of_row _ _ _ _ _ _ hx1), pw_cell_below hV (cell_of_row _ _ _ _ _ _ hx1)⟩
  have HBX := Lib.hid hbox
  have HB1 := Lib.hid hb1
  have HR := Lib.hid hr
  have HC := Lib.hid hC
  have HL := Lib.hid (And.intro hl (And.intro hlc0 hlc))
  have HWR := Lib.hid hwr
  have HWT := Lib.hid (fun V (hV : Below W.heap.size W V) => PTreeSame.colophonlaw13_weight.calls kw x.f0 x.f1.f0 x.f1.f1 x.f1.f2.f0 x.f1.f2.f1 x.f1.f2.f2 x.f1.f3 A c x.f2 0 0 r V (Kd.C_below hC hV) hlc hw)
  clear hb1 hx1 hbox hr hl hlc0 hC hlc hw hwr
  go_enter Try.func5, Try.ntmps5
  have hs : r ≤ 16777216 ∨ 16777216 < r := by omega
  rcases hs with hs | hs
  · have d3 : decide (16777216 < r) = false := decide_eq_false (by omega)
    go_upto_region 4 with (first
      | (go_at_call 8; refine (HAW.out _).mono ?_; rintro e w2 ⟨rfl, hb2⟩; have HB2 := Lib.hid hb2; obtain ⟨q0, q1, q2, q3, q4, q5, q6, q7⟩ := HBX.out w2 hb2; clear hb2)
      | (go_at_call 14; refine (HWT.out _ (HB1.out.trans (HB2.out.mono HB1.out.size))).mono ?_; rintro e w3 ⟨rfl, hb3⟩; have HB3 := Lib.hid (HB2.out.trans (hb3.mono HB2.out.size)); clear hb3 q0 q1 q2 q3 q4 q5 q6 q7))
    have hr3 : Kd.C kEv w3 A0 l.length l := Kd.C_below HR.out (HB1.out.trans (HB3.out.mono HB1.out.size))
    have HBU := Lib.hid (build_any A0 l.length c0 l w3 hr3 rfl (by have := HL.out.1; omega))
    clear hr3
    cases hb : runB l [] with
    | none =>
      have HRB := Lib.hid hb
      clear hb
      go_upto_region 17 with (go_at_call 9; refine (HBU.out).mono ?_; rintro e w4 ⟨v4, rfl, ho4, hb4⟩; rw [bld_none HRB.out] at ho4 ⊢; obtain ⟨A4, c4, rfl, hc4, hk4⟩ := ownS_C ho4; have HB4 := Lib.hid (HB3.out.trans (hb4.mono HB3.out.size)); clear ho4 hb4 hc4 hk4; dsimp only [noNd, noTk])
      obtain ⟨w5, hw5⟩ : ∃ V, w4.alloc (.cells #[.int .u8 0, .int .u8 0, .string ⟨#[]⟩, .int .i64 0, .int .i64 0, .int .i64 0, .int .i64 0, .slice A4 0 c4] TN) = V := ⟨_, rfl⟩
      have hb5 : Below W1.heap.size W1 w5 := by rw [← hw5]; exact HB4.out.alloc HB4.out.size _
      rw [hw5]
      have HB5 := Lib.hid hb5
      clear hw5 hb5
      have HEV := Lib.hid (events_any x A x.f2.length c w5 rfl HL.out.2.2 (Kd.C_below HC.out (HB1.out.trans (HB5.out.mono HB1.out.size))) (by have := HWR.out hs; omega))
      obtain ⟨q0, q1, q2, q3, q4, q5, q6, q7⟩ := HBX.out w5 HB5.out
      obtain ⟨dx, hdx⟩ : ∃ d : Int, (dep x : Int) = d := ⟨_, rfl⟩
      obtain ⟨kd, hkd⟩ := depth_f (nds x) x (Nat.le_refl _) (by have := HWR.out hs; omega)
      rw [hdx] at hkd
      have HDX := Lib.hid (fun V (hV : Below W1.heap.size W1 V) => PTreeSame.tree_Depth.calls kd x.f0 x.f1.f0 x.f1.f1 x.f1.f2.f0 x.f1.f2.f1 x.f1.f2.f2 x.f1.f3 A c x.f2 dx V (Kd.C_below HC.out (HB1.out.trans (hV.mono HB1.out.size))) HL.out.2.2 hkd)
      clear hkd
      have hdd : (1 ≤ dx ∧ dx ≤ 1000) ∨ dx < 1 ∨ 1000 < dx := by omega
      rcases hdd with hdd | hdd | hdd
      · obtain ⟨hd1, hd2⟩ := hdd
        have hyb : bld (tells x) = (canonN x, 0) := bld_some (by rw [back_run, if_pos ⟨by omega, by omega⟩])
        obtain ⟨y, hy⟩ : ∃ y, canonN x = y := ⟨_, rfl⟩
        have hys : ∀ k, sameN k y x = true := fun k => hy ▸ same_canon k x
        have hyd : (dep y : Int) = dx := by rw [← hy, dep_canon, hdx]
        have hyn : nds y ≤ nds x := hy ▸ nds_canon x
        rw [hy] at hyb
        have HBB := Lib.hid hyb
        have HYN := Lib.hid hyn
        have HYD := Lib.hid hyd
        have HYS := Lib.hid (hys (nds y))
        clear hyb hy hys hyd hyn hdx
        go_upto_region 18 with (first
          | (go_at_call 19; refine (HEV.out).mono ?_; rintro e w6 ⟨v6, rfl, hr6, hb6⟩; obtain ⟨A6, c6, rfl, hc6, hC6⟩ := Kd.R_reads hr6; have HB6 := Lib.hid (HB5.out.trans (hb6.mono HB5.out.size)); have HBV := Lib.hid (build_any A6 (tells x).length c6 (tells x) w6 hC6 rfl (by have := tells_len x; have := HWR.out hs; omega)); clear hr6 hb6 hc6 hC6 q0 q1 q2 q3 q4 q5 q6 q7)
          | (go_at_call 9; refine (HBV.out).mono ?_; rintro e w7 ⟨v7, rfl, ho7, hb7⟩; rw [HBB.out] at ho7 ⊢; obtain ⟨A7, c7, rfl, hc7, hk7⟩ := ownS_C ho7; have HK7 := Lib.hid (And.intro hc7 hk7); have HB7 := Lib.hid (HB6.out.trans (hb7.mono HB6.out.size)); clear ho7 hb7 hc7 hk7; try dsimp only [noNd, noTk]))
        obtain ⟨w8, hw8, h8, hb8, hz8⟩ := nd_new (W := w7) (cs := #[.int .u8 y.f0, .int .u8 y.f1.f0, .string y.f1.f1, .int .i64 y.f1.f2.f0, .int .i64 y.f1.f2.f1, .int .i64 y.f1.f2.f2, .int .i64 y.f1.f3, .slice A7 y.f2.length c7])
        rw [hw8]
        have HX8 := Lib.hid (nd_box h8)
        have HB78 := Lib.hid hb8
        have HB8 := Lib.hid (HB7.out.trans (hb8.mono HB7.out.size))
        clear hw8 h8 hb8 hz8
        obtain ⟨q0, q1, q2, q3, q4, q5, q6, q7⟩ := HBX.out w8 HB8.out
        obtain ⟨ky, hky⟩ := depth_f (nds y) y (Nat.le_refl _) (by have := HYN.out; have := HWR.out hs; omega)
        rw [HYD.out] at hky
        have HCY : Hid (∀ V, Below w8.heap.size w8 V → Kd.C kNd V A7 y.f2.length y.f2) := Lib.hid (fun V hV => Kd.C_below (Kd.C_below HK7.out.2 HB78.out) hV)
        have HDY := Lib.hid (fun V (hV : Below w8.heap.size w8 V) => PTreeSame.tree_Depth.calls ky y.f0 y.f1.f0 y.f1.f1 y.f1.f2.f0 y.f1.f2.f1 y.f1.f2.f2 y.f1.f3 A7 c7 y.f2 dx V (HCY.out V hV) HK7.out.1 hky)
        have HSM := Lib.hid (fun V (hV : Below w8.heap.size w8 V) => same_any (nds y) V y x A7 A c7 c (Nat.le_refl _) HK7.out.1 HL.out.2.2 (HCY.out V hV) (Kd.C_below HC.out (HB1.out.trans ((HB8.out.trans (hV.mono HB8.out.size)).mono HB1.out.size))) (by have := HYN.out; have := HWR.out hs; omega) (by have := HWR.out hs; omega))
        clear hky
        go_upto_region 21 with (go_at_call 20; refine (HDX.out w8 HB8.out).mono ?_; rintro e w9 ⟨rfl, hb9⟩; have HB9 := Lib.hid hb9; clear hb9 q0 q1 q2 q3 q4 q5 q6 q7)
        obtain ⟨q0, q1, q2, q3, q4, q5, q6, q7⟩ := HBX.out w9 (HB8.out.trans (HB9.out.mono HB8.out.size))
        obtain ⟨p0, p1, p2, p3, p4, p5, p6, p7⟩ := HX8.out w9 HB9.out
        go_wp2_with (first
          | (go_at_call 17; refine (HSM.out w9 HB9.out).mono ?_; rintro e w10 ⟨rfl, hb10⟩; rw [HYS.out]; have HB10 := Lib.hid (HB9.out.trans (hb10.mono HB9.out.size)); clear hb10 q0 q1 q2 q3 q4 q5 q6 q7 p0 p1 p2 p3 p4 p5 p6 p7; obtain ⟨p0, p1, p2, p3, p4, p5, p6, p7⟩ := HX8.out w10 HB10.out)
          | (go_at_call 20; refine (HDY.out w10 HB10.out).mono ?_; rintro e w11 ⟨rfl, hb11⟩; have HB11 := Lib.hid (HB10.out.trans (hb11.mono HB10.out.size)); clear hb11 p0 p1 p2 p3 p4 p5 p6 p7))
        go_ret
        exact ⟨rfl, HB1.out.trans ((HB8.out.trans (HB11.out.mono HB8.out.size)).mono HB1.out.size)⟩
      · have HBB := Lib.hid (show bld (tells x) = (noNd, 130) from bld_none (by rw [back_run, if_neg (by omega)]))
        have e1 : decide (1 ≤ dx) = false := decide_eq_false (by omega)
        skip
        clear hdx
        go_upto_region 18 with (first
          | (go_at_call 19; refine (HEV.out).mono ?_; rintro e w6 ⟨v6, rfl, hr6, hb6⟩; obtain ⟨A6, c6, rfl, hc6, hC6⟩ := Kd.R_reads hr6; have HB6 := Lib.hid (HB5.out.trans (hb6.mono HB5.out.size)); have HBV := Lib.hid (build_any A6 (tells x).length c6 (tells x) w6 hC6 rfl (by have := tells_len x; have := HWR.out hs; omega)); clear hr6 hb6 hc6 hC6 q0 q1 q2 q3 q4 q5 q6 q7)
          | (go_at_call 9; refine (HBV.out).mono ?_; rintro e w7 ⟨v7, rfl, ho7, hb7⟩; rw [HBB.out] at ho7 ⊢; obtain ⟨A7, c7, rfl, hc7, hk7⟩ := ownS_C ho7; have HK7 := Lib.hid (And.intro hc7 hk7); have HB7 := Lib.hid (HB6.out.trans (hb7.mono HB6.out.size)); clear ho7 hb7 hc7 hk7; try dsimp only [noNd, noTk]))
        obtain ⟨w8, hw8, h8, hb8, hz8⟩ := nd_new (W := w7) (cs := #[.int .u8 0, .int .u8 0, .string ⟨#[]⟩, .int .i64 0, .int .i64 0, .int .i64 0, .int .i64 0, .slice A7 0 c7])
        rw [hw8]
        have HB8 := Lib.hid (HB7.out.trans (hb8.mono HB7.out.size))
        clear hw8 h8 hb8 hz8
        obtain ⟨q0, q1, q2, q3, q4, q5, q6, q7⟩ := HBX.out w8 HB8.out
        go_wp2_with (go_at_call 20; refine (HDX.out w8 HB8.out).mono ?_; rintro e w9 ⟨rfl, hb9⟩; have HB9 := Lib.hid (HB8.out.trans (hb9.mono HB8.out.size)); clear hb9 q0 q1 q2 q3 q4 q5 q6 q7)
        go_ret
        exact ⟨rfl, HB1.out.trans (HB9.out.mono HB1.out.size)⟩
      · have HBB := Lib.hid (show bld (tells x) = (noNd, 130) from bld_none (by rw [back_run, if_neg (by omega)]))
        have e1 : decide (1 ≤ dx) = true := decide_eq_true (by omega)
        have e2 : decide (dx ≤ 1000) = false := decide_eq_false (by omega)
        clear hdx
        go_upto_region 18 with (first
          | (go_at_call 19; refine (HEV.out).mono ?_; rintro e w6 ⟨v6, rfl, hr6, hb6⟩; obtain ⟨A6, c6, rfl, hc6, hC6⟩ := Kd.R_reads hr6; have HB6 := Lib.hid (HB5.out.trans (hb6.mono HB5.out.size)); have HBV := Lib.hid (build_any A6 (tells x).length c6 (tells x) w6 hC6 rfl (by have := tells_len x; have := HWR.out hs; omega)); clear hr6 hb6 hc6 hC6 q0 q1 q2 q3 q4 q5 q6 q7)
          | (go_at_call 9; refine (HBV.out).mono ?_; rintro e w7 ⟨v7, rfl, ho7, hb7⟩; rw [HBB.out] at ho7 ⊢; obtain ⟨A7, c7, rfl, hc7, hk7⟩ := ownS_C ho7; have HK7 := Lib.hid (And.intro hc7 hk7); have HB7 := Lib.hid (HB6.out.trans (hb7.mono HB6.out.size)); clear ho7 hb7 hc7 hk7; try dsimp only [noNd, noTk]))
        obtain ⟨w8, hw8, h8, hb8, hz8⟩ := nd_new (W := w7) (cs := #[.int .u8 0, .int .u8 0, .string ⟨#[]⟩, .int .i64 0, .int .i64 0, .int .i64 0, .int .i64 0, .slice A7 0 c7])
        rw [hw8]
        have HB8 := Lib.hid (HB7.out.trans (hb8.mono HB7.out.size))
        clear hw8 h8 hb8 hz8
        obtain ⟨q0, q1, q2, q3, q4, q5, q6, q7⟩ := HBX.out w8 HB8.out
        go_wp2_with (go_at_call 20; refine (HDX.out w8 HB8.out).mono ?_; rintro e w9 ⟨rfl, hb9⟩; have HB9 := Lib.hid (HB8.out.trans (hb9.mono HB8.out.size)); clear hb9 q0 q1 q2 q3 q4 q5 q6 q7)
        go_ret
        exact ⟨rfl, HB1.out.trans (HB9.out.mono HB1.out.size)⟩
    | some a =>
      obtain ⟨ht, ha⟩ := bld_tells hb
      have HRB := Lib.hid hb
      have HT := Lib.hid (And.intro ht ha)
      clear hb ht ha
      go_upto_region 5 with (go_at_call 9; refine (HBU.out).mono ?_; rintro e w4 ⟨v4, rfl, ho4, hb4⟩; rw [bld_some HRB.out] at ho4 ⊢; obtain ⟨A4, c4, rfl, hc4, hk4⟩ := ownS_C ho4; have HK4 := Lib.hid (And.intro hc4 hk4); have HB4 := Lib.hid (HB3.out.trans (hb4.mono HB3.out.size)); clear ho4 hb4 hc4 hk4; dsimp only)
      obtain ⟨w5, hw5, h5, hb5, hz5⟩ := nd_new (W := w4) (cs := #[.int .u8 a.f0, .int .u8 a.f1.f0, .string a.f1.f1, .int .i64 a.f1.f2.f0, .int .i64 a.f1.f2.f1, .int .i64 a.f1.f2.f2, .int .i64 a.f1.f3, .slice A4 a.f2.length c4])
      rw [hw5]
      have HX5 := Lib.hid (nd_box h5)
      have hna : nds a ≤ l.length := by have := run_nds l [] a HRB.out; simpa [ndsL] using this
      have HEA := Lib.hid (events_any a A4 a.f2.length c4 w5 rfl HK4.out.1 (Kd.C_below HK4.out.2 hb5) (by have := HL.out.1; omega))
      have HB5 := Lib.hid (HB4.out.trans (hb5.mono HB4.out.size))
      clear hw5 hb5 hz5 h5 hna
      obtain ⟨p0, p1, p2, p3, p4, p5, p6, p7⟩ := HX5.out w5 (Below.refl _ _)
      obtain ⟨m, hm⟩ : ∃ m, l.map canon = m := ⟨_, rfl⟩
      have hml : m.length = l.length := by rw [← hm, List.length_map]
      have hta : tells a = m := by rw [HT.out.1, hm]
      have HMM := Lib.hid hm
      have HML := Lib.hid hml
      have HTA := Lib.hid hta
      clear hm hml hta
      go_upto_region 9 with (go_at_call 19; refine (HEA.out).mono ?_; rintro e w6 ⟨v6, rfl, hr6, hb6⟩; rw [HTA.out] at hr6; obtain ⟨A6, c6, rfl, hc6, hC6⟩ := Kd.R_reads hr6; rw [HML.out] at hc6 hC6 ⊢; have HC6 := Lib.hid (And.intro hc6 hC6); have HB6 := Lib.hid (HB5.out.trans (hb6.mono HB5.out.size)); clear hr6 hb6 hc6 hC6 p0 p1 p2 p3 p4 p5 p6 p7)
      obtain ⟨n, hn⟩ : ∃ n, l.length = n := ⟨_, rfl⟩
      rw [hn] at d1 d2
      rw [hn]
      have hlt2 : n ≤ 16777216 := hn ▸ HL.out.1
      have hR6 : Kd.C kEv w6 A0 n l := hn ▸ Kd.C_below HR.out (HB1.out.trans (HB6.out.mono HB1.out.size))
      have hM6 : Kd.C kEv w6 A6 n m := hn ▸ HC6.out.2
      have HR6 := Lib.hid hR6
      have HM6 := Lib.hid hM6
      have HN := Lib.hid hn
      clear hR6 hM6 hn
      go_wp2
      go_loopw [9] (fun iv wr => ∃ i : Nat, i ≤ n ∧ iv = .int .i64 i ∧ Hid (Below w6.heap.size w6 wr)) (fun iv _ => n - (intOf iv).toNat)
      case atStart => exact ⟨0, Nat.zero_le _, rfl, Lib.hid (Below.refl _ _)⟩
      case round =>
        obtain ⟨i, hi, rfl, HW⟩ := hrel
        by_cases hlt : i < n
        · have dlt : decide (i < n) = true := decide_eq_true hlt
          obtain ⟨e, he⟩ : ∃ e, l[i]? = some e := ⟨_, List.getElem?_eq_getElem (by have := HN.out; omega)⟩
          have he' : m[i]? = some (canon e) := by rw [← HMM.out, List.getElem?_map, he]; rfl
          obtain ⟨ad, hA0, r⟩ := (evAt_of (Kd.C_below HR6.out HW.out) i e hlt he).cell
          obtain ⟨ae, hA6, s⟩ := (evAt_of (Kd.C_below HM6.out HW.out) i (canon e) hlt he').cell
          subst hA0 hA6
          have g1 : (0 : Int) ≤ (i : Int) := by omega
          have g2 : (i : Int) < (n : Int) := by omega
          obtain ⟨k, nd, k0, tx, ⟨p0, p1, p2⟩, fd⟩ := e
          clear he he'
          have hk : k = 2 ∨ k = 4 ∨ (k ≠ 2 ∧ k ≠ 4) := by omega
          rcases hk with rfl | rfl | ⟨hk2, hk4⟩
          · have hcn : canon ⟨2, nd, k0, tx, ⟨p0, p1, p2⟩, fd⟩ = ⟨2, 0, k0, tx, ⟨p0, p1, p2⟩, fd⟩ := by unfold canon; rw [if_pos (.inl rfl)]
            rw [hcn] at s
            clear hcn
            obtain ⟨r0, r1, r2, r3, r4, r5, r6, r7⟩ := r
            obtain ⟨s0, s1, s2, s3, s4, s5, s6, s7⟩ := s
            dsimp only [noTk] at r0 r1 r2 r3 r4 r5 r6 r7 s0 s1 s2 s3 s4 s5 s6 s7
            go_wp2
            go_quiet (fail)
            go_wp2
            go_roundw
            case rel => exact ⟨i + 1, by omega, by go_num, Lib.hid (HW.out.trans ⟨rfl, rfl, rfl, Nat.le_refl _, fun _ _ => rfl⟩)⟩
            case measure => simp [intOf]; omega
          · have hcn : canon ⟨4, nd, k0, tx, ⟨p0, p1, p2⟩, fd⟩ = ⟨4, 0, k0, tx, ⟨p0, p1, p2⟩, fd⟩ := by unfold canon; rw [if_pos (.inr rfl)]
            rw [hcn] at s
            clear hcn
            obtain ⟨r0, r1, r2, r3, r4, r5, r6, r7⟩ := r
            obtain ⟨s0, s1, s2, s3, s4, s5, s6, s7⟩ := s
            dsimp only [noTk] at r0 r1 r2 r3 r4 r5 r6 r7 s0 s1 s2 s3 s4 s5 s6 s7
            go_wp2
            go_quiet (fail)
            go_wp2
            go_roundw
            case rel => exact ⟨i + 1, by omega, by go_num, Lib.hid (HW.out.trans ⟨rfl, rfl, rfl, Nat.le_refl _, fun _ _ => rfl⟩)⟩
            case measure => simp [intOf]; omega
          · have b2 : (k == 2) = false := beq_eq_false_iff_ne.2 hk2
            have b4 : (k == 4) = false := beq_eq_false_iff_ne.2 hk4
            have hcn : canon ⟨k, nd, k0, tx, ⟨p0, p1, p2⟩, fd⟩ = ⟨k, nd, noTk⟩ := by unfold canon; rw [if_neg (by simp [hk2, hk4])]
            rw [hcn] at s
            clear hcn hk2 hk4
            obtain ⟨r0, r1, r2, r3, r4, r5, r6, r7⟩ := r
            obtain ⟨s0, s1, s2, s3, s4, s5, s6, s7⟩ := s
            dsimp only [noTk] at r0 r1 r2 r3 r4 r5 r6 r7 s0 s1 s2 s3 s4 s5 s6 s7
            go_wp2
            go_quiet (fail)
            go_wp2
            go_roundw
            case rel => exact ⟨i + 1, by omega, by go_num, Lib.hid (HW.out.trans ⟨rfl, rfl, rfl, Nat.le_refl _, fun _ _ => rfl⟩)⟩
            case measure => simp [intOf]; omega
        · have dlt : decide (i < n) = false := decide_eq_false hlt
          obtain rfl : i = n := by omega
          go_upto_region 17 with (fail)
          obtain ⟨w5, hw5⟩ : ∃ V, wr = V := ⟨_, rfl⟩
          have HB5 := Lib.hid (hw5 ▸ HB6.out.trans (HW.out.mono HB6.out.size))
          rw [hw5]
          have HEV := Lib.hid (events_any x A x.f2.length c w5 rfl HL.out.2.2 (Kd.C_below HC.out (HB1.out.trans (HB5.out.mono HB1.out.size))) (by have := HWR.out hs; omega))
          obtain ⟨q0, q1, q2, q3, q4, q5, q6, q7⟩ := HBX.out w5 HB5.out
          obtain ⟨dx, hdx⟩ : ∃ d : Int, (dep x : Int) = d := ⟨_, rfl⟩
          obtain ⟨kd, hkd⟩ := depth_f (nds x) x (Nat.le_refl _) (by have := HWR.out hs; omega)
          rw [hdx] at hkd
          have HDX := Lib.hid (fun V (hV : Below W1.heap.size W1 V) => PTreeSame.tree_Depth.calls kd x.f0 x.f1.f0 x.f1.f1 x.f1.f2.f0 x.f1.f2.f1 x.f1.f2.f2 x.f1.f3 A c x.f2 dx V (Kd.C_below HC.out (HB1.out.trans (hV.mono HB1.out.size))) HL.out.2.2 hkd)
          clear hkd
          have hdd : (1 ≤ dx ∧ dx ≤ 1000) ∨ dx < 1 ∨ 1000 < dx := by omega
          rcases hdd with hdd | hdd | hdd
          · obtain ⟨hd1, hd2⟩ := hdd
            have hyb : bld (tells x) = (canonN x, 0) := bld_some (by rw [back_run, if_pos ⟨by omega, by omega⟩])
            obtain ⟨y, hy⟩ : ∃ y, canonN x = y := ⟨_, rfl⟩
            have hys : ∀ k, sameN k y x = true := fun k => hy ▸ same_canon k x
            have hyd : (dep y : Int) = dx := by rw [← hy, dep_canon, hdx]
            have hyn : nds y ≤ nds x := hy ▸ nds_canon x
            rw [hy] at hyb
            have HBB := Lib.hid hyb
            have HYN := Lib.hid hyn
            have HYD := Lib.hid hyd
            have HYS := Lib.hid (hys (nds y))
            clear hyb hy hys hyd hyn hdx
            go_upto_region 18 with (first
              | (go_at_call 19; refine (HEV.out).mono ?_; rintro e w6 ⟨v6, rfl, hr6, hb6⟩; obtain ⟨A6, c6, rfl, hc6, hC6⟩ := Kd.R_reads hr6; have HB6 := Lib.hid (HB5.out.trans (hb6.mono HB5.out.size)); have HBV := Lib.hid (build_any A6 (tells x).length c6 (tells x) w6 hC6 rfl (by have := tells_len x; have := HWR.out hs; omega)); clear hr6 hb6 hc6 hC6 q0 q1 q2 q3 q4 q5 q6 q7)
              | (go_at_call 9; refine (HBV.out).mono ?_; rintro e w7 ⟨v7, rfl, ho7, hb7⟩; rw [HBB.out] at ho7 ⊢; obtain ⟨A7, c7, rfl, hc7, hk7⟩ := ownS_C ho7; have HK7 := Lib.hid (And.intro hc7 hk7); have HB7 := Lib.hid (HB6.out.trans (hb7.mono HB6.out.size)); clear ho7 hb7 hc7 hk7; try dsimp only [noNd, noTk]))
            obtain ⟨w8, hw8, h8, hb8, hz8⟩ := nd_new (W := w7) (cs := #[.int .u8 y.f0, .int .u8 y.f1.f0, .string y.f1.f1, .int .i64 y.f1.f2.f0, .int .i64 y.f1.f2.f1, .int .i64 y.f1.f2.f2, .int .i64 y.f1.f3, .slice A7 y.f2.length c7])
            rw [hw8]
            have HX8 := Lib.hid (nd_box h8)
            have HB78 := Lib.hid hb8
            have HB8 := Lib.hid (HB7.out.trans (hb8.mono HB7.out.size))
            clear hw8 h8 hb8 hz8
            obtain ⟨q0, q1, q2, q3, q4, q5, q6, q7⟩ := HBX.out w8 HB8.out
            obtain ⟨ky, hky⟩ := depth_f (nds y) y (Nat.le_refl _) (by have := HYN.out; have := HWR.out hs; omega)
            rw [HYD.out] at hky
            have HCY : Hid (∀ V, Below w8.heap.size w8 V → Kd.C kNd V A7 y.f2.length y.f2) := Lib.hid (fun V hV => Kd.C_below (Kd.C_below HK7.out.2 HB78.out) hV)
            have HDY := Lib.hid (fun V (hV : Below w8.heap.size w8 V) => PTreeSame.tree_Depth.calls ky y.f0 y.f1.f0 y.f1.f1 y.f1.f2.f0 y.f1.f2.f1 y.f1.f2.f2 y.f1.f3 A7 c7 y.f2 dx V (HCY.out V hV) HK7.out.1 hky)
            have HSM := Lib.hid (fun V (hV : Below w8.heap.size w8 V) => same_any (nds y) V y x A7 A c7 c (Nat.le_refl _) HK7.out.1 HL.out.2.2 (HCY.out V hV) (Kd.C_below HC.out (HB1.out.trans ((HB8.out.trans (hV.mono HB8.out.size)).mono HB1.out.size))) (by have := HYN.out; have := HWR.out hs; omega) (by have := HWR.out hs; omega))
            clear hky
            go_upto_region 21 with (go_at_call 20; refine (HDX.out w8 HB8.out).mono ?_; rintro e w9 ⟨rfl, hb9⟩; have HB9 := Lib.hid hb9; clear hb9 q0 q1 q2 q3 q4 q5 q6 q7)
            obtain ⟨q0, q1, q2, q3, q4, q5, q6, q7⟩ := HBX.out w9 (HB8.out.trans (HB9.out.mono HB8.out.size))
            obtain ⟨p0, p1, p2, p3, p4, p5, p6, p7⟩ := HX8.out w9 HB9.out
            go_wp2_with (first
              | (go_at_call 17; refine (HSM.out w9 HB9.out).mono ?_; rintro e w10 ⟨rfl, hb10⟩; rw [HYS.out]; have HB10 := Lib.hid (HB9.out.trans (hb10.mono HB9.out.size)); clear hb10 q0 q1 q2 q3 q4 q5 q6 q7 p0 p1 p2 p3 p4 p5 p6 p7; obtain ⟨p0, p1, p2, p3, p4, p5, p6, p7⟩ := HX8.out w10 HB10.out)
              | (go_at_call 20; refine (HDY.out w10 HB10.out).mono ?_; rintro e w11 ⟨rfl, hb11⟩; have HB11 := Lib.hid (HB10.out.trans (hb11.mono HB10.out.size)); clear hb11 p0 p1 p2 p3 p4 p5 p6 p7))
            go_ret
            exact ⟨rfl, HB1.out.trans ((HB8.out.trans (HB11.out.mono HB8.out.size)).mono HB1.out.size)⟩
          · have HBB := Lib.hid (show bld (tells x) = (noNd, 130) from bld_none (by rw [back_run, if_neg (by omega)]))
            have e1 : decide (1 ≤ dx) = false := decide_eq_false (by omega)
            skip
            clear hdx
            go_upto_region 18 with (first
              | (go_at_call 19; refine (HEV.out).mono ?_; rintro e w6 ⟨v6, rfl, hr6, hb6⟩; obtain ⟨A6, c6, rfl, hc6, hC6⟩ := Kd.R_reads hr6; have HB6 := Lib.hid (HB5.out.trans (hb6.mono HB5.out.size)); have HBV := Lib.hid (build_any A6 (tells x).length c6 (tells x) w6 hC6 rfl (by have := tells_len x; have := HWR.out hs; omega)); clear hr6 hb6 hc6 hC6 q0 q1 q2 q3 q4 q5 q6 q7)
              | (go_at_call 9; refine (HBV.out).mono ?_; rintro e w7 ⟨v7, rfl, ho7, hb7⟩; rw [HBB.out] at ho7 ⊢; obtain ⟨A7, c7, rfl, hc7, hk7⟩ := ownS_C ho7; have HK7 := Lib.hid (And.intro hc7 hk7); have HB7 := Lib.hid (HB6.out.trans (hb7.mono HB6.out.size)); clear ho7 hb7 hc7 hk7; try dsimp only [noNd, noTk]))
            obtain ⟨w8, hw8, h8, hb8, hz8⟩ := nd_new (W := w7) (cs := #[.int .u8 0, .int .u8 0, .string ⟨#[]⟩, .int .i64 0, .int .i64 0, .int .i64 0, .int .i64 0, .slice A7 0 c7])
            rw [hw8]
            have HB8 := Lib.hid (HB7.out.trans (hb8.mono HB7.out.size))
            clear hw8 h8 hb8 hz8
            obtain ⟨q0, q1, q2, q3, q4, q5, q6, q7⟩ := HBX.out w8 HB8.out
            go_wp2_with (go_at_call 20; refine (HDX.out w8 HB8.out).mono ?_; rintro e w9 ⟨rfl, hb9⟩; have HB9 := Lib.hid (HB8.out.trans (hb9.mono HB8.out.size)); clear hb9 q0 q1 q2 q3 q4 q5 q6 q7)
            go_ret
            exact ⟨rfl, HB1.out.trans (HB9.out.mono HB1.out.size)⟩
          · have HBB := Lib.hid (show bld (tells x) = (noNd, 130) from bld_none (by rw [back_run, if_neg (by omega)]))
            have e1 : decide (1 ≤ dx) = true := decide_eq_true (by omega)
            have e2 : decide (dx ≤ 1000) = false := decide_eq_false (by omega)
            clear hdx
            go_upto_region 18 with (first
              | (go_at_call 19; refine (HEV.out).mono ?_; rintro e w6 ⟨v6, rfl, hr6, hb6⟩; obtain ⟨A6, c6, rfl, hc6, hC6⟩ := Kd.R_reads hr6; have HB6 := Lib.hid (HB5.out.trans (hb6.mono HB5.out.size)); have HBV := Lib.hid (build_any A6 (tells x).length c6 (tells x) w6 hC6 rfl (by have := tells_len x; have := HWR.out hs; omega)); clear hr6 hb6 hc6 hC6 q0 q1 q2 q3 q4 q5 q6 q7)
              | (go_at_call 9; refine (HBV.out).mono ?_; rintro e w7 ⟨v7, rfl, ho7, hb7⟩; rw [HBB.out] at ho7 ⊢; obtain ⟨A7, c7, rfl, hc7, hk7⟩ := ownS_C ho7; have HK7 := Lib.hid (And.intro hc7 hk7); have HB7 := Lib.hid (HB6.out.trans (hb7.mono HB6.out.size)); clear ho7 hb7 hc7 hk7; try dsimp only [noNd, noTk]))
            obtain ⟨w8, hw8, h8, hb8, hz8⟩ := nd_new (W := w7) (cs := #[.int .u8 0, .int .u8 0, .string ⟨#[]⟩, .int .i64 0, .int .i64 0, .int .i64 0, .int .i64 0, .slice A7 0 c7])
            rw [hw8]
            have HB8 := Lib.hid (HB7.out.trans (hb8.mono HB7.out.size))
            clear hw8 h8 hb8 hz8
            obtain ⟨q0, q1, q2, q3, q4, q5, q6, q7⟩ := HBX.out w8 HB8.out
            go_wp2_with (go_at_call 20; refine (HDX.out w8 HB8.out).mono ?_; rintro e w9 ⟨rfl, hb9⟩; have HB9 := Lib.hid (HB8.out.trans (hb9.mono HB8.out.size)); clear hb9 q0 q1 q2 q3 q4 q5 q6 q7)
            go_ret
            exact ⟨rfl, HB1.out.trans (HB9.out.mono HB1.out.size)⟩
  · have d3 : decide (16777216 < r) = true := decide_eq_true hs
    go_wp2_with (first
      | (go_at_call 8; refine (HAW.out _).mono ?_; rintro e w2 ⟨rfl, hb2⟩; have HB2 := Lib.hid hb2; obtain ⟨q0, q1, q2, q3, q4, q5, q6, q7⟩ := HBX.out w2 hb2; clear hb2)
      | (go_at_call 14; refine (HWT.out _ (HB1.out.trans (HB2.out.mono HB1.out.size))).mono ?_; rintro e w3 ⟨rfl, hb3⟩; have HB3 := Lib.hid (HB2.out.trans (hb3.mono HB2.out.size)); clear hb3 q0 q1 q2 q3 q4 q5 q6 q7))
    go_ret
    exact ⟨rfl, HB1.out.trans (HB3.out.mono HB1.out.size)⟩
end Go.Proofs.Ytfefldkljbbbpaa
