/- The document's Build: the walk. (Printed by genrb.py.) -/
import Derived.Test.YtfefldkljbbbpaaRefN
set_option linter.unusedVariables false
set_option linter.unusedSimpArgs false
namespace Go.Proofs.Ytfefldkljbbbpaa
open Go.RowKit Go.Shelf Go.Proofs.YtfefldkljbbbpaaW.PrintWords Go.Proofs.YtfefldkljbbbpaaW.PrintLast Go.Proofs.YtfefldkljbbbpaaW.PrintMore

set_option maxRecDepth 100000 in
set_option maxHeartbeats 4000000 in
theorem refbuild_any (A : Option Addr) (n c : Nat) (l : List Ev) (w : World) (hr : Kd.C kEv w A n l) (hn : l.length = n) (hbig : n ≤ 16777216) :
    Calls Try.prog 10 #[.slice A n c] w fun e w' => BuildPost w l e w' := by
  have hna := node_any l A n c hn hbig n
  have HNA := Lib.hid hna
  have HR := Lib.hid hr
  have HL := Lib.hid hn
  clear hna hr hn
  by_cases hn0 : n = 0
  · subst hn0
    have HRN := Lib.hid (ref_bld (l := l) (fun e he => by rw [List.eq_nil_of_length_eq_zero HL.out] at he; cases he))
    go_enter Try.func10, Try.ntmps10
    go_wp2
    refine bodyPost_ret (v := .tuple #[.agg zNd.toArray, .int .i64 130]) ?_ rfl (BuildPost.err HRN.out ((Below.refl _ w).alloc (Nat.le_refl _) _))
    rw [results_cell_tmp rfl]
    go_simp
    try (first | rfl | (repeat' apply And.intro) <;> rfl)
  · have dn : (n == 0) = false := beq_eq_false_iff_ne.2 hn0
    have dn2 : ((n : Int) == 0) = false := beq_eq_false_iff_ne.2 (by omega)
    obtain ⟨e, he⟩ : ∃ e, l[0]? = some e := ⟨_, List.getElem?_eq_getElem (by have := HL.out; omega)⟩
    have hE := evAt_of (Kd.C_below HR.out ((Below.refl _ w).alloc (Nat.le_refl _) (.cells #[.int .u8 0, .int .u8 0, .string ⟨#[]⟩, .int .i64 0, .int .i64 0, .int .i64 0, .int .i64 0, .slice none 0 0] TN))) 0 e (by omega) he
    obtain ⟨k, nd, tk⟩ := e
    obtain ⟨ad, rfl, e0, -⟩ := hE.cell
    rw [Nat.zero_mul] at e0
    dsimp only at e0
    have e0' := e0
    rw [show ad.add 0 = ad by simp [Addr.add]] at e0'
    obtain ⟨W0, hW0, hz, hb0, hzs⟩ := nd_new (W := w) (cs := #[.int .u8 0, .int .u8 0, .string ⟨#[]⟩, .int .i64 0, .int .i64 0, .int .i64 0, .int .i64 0, .slice none 0 0])
    have HW0 := Lib.hid hW0
    have HZ := Lib.hid hz
    have HB0 := Lib.hid hb0
    clear hW0 hz hb0 hzs hE
    have g2 : (0 : Int) < (n : Int) := by omega
    by_cases hk : k = 1
    · subst hk
      have HNN := Lib.hid (show Calls Try.prog 26 #[.slice (some ad) n c, .int .i64 0, .int .i64 1] W0 _ from HNA.out 0 1 _ W0 (by omega) he rfl (by omega) (by omega) (Kd.C_below HR.out HB0.out))
      clear he
      go_enter Try.func10, Try.ntmps10
      go_upto_region 3 with (fail)
      rw [HW0.out]
      go_wp2_with (fail)
      refine (HNN.out).mono ?_
      rintro e w2 (⟨x, a2, hy, A3, c3, he, ho, hb2⟩ | ⟨hno, y, z, he, hb2⟩)
      · have he2 : e = .returned (.agg #[.int .u8 x.f0, .int .u8 x.f1.f0, .string x.f1.f1, .int .i64 x.f1.f2.f0, .int .i64 x.f1.f2.f1, .int .i64 x.f1.f2.f2, .int .i64 x.f1.f3, .slice A3 x.f2.length c3, .int .i64 a2, .bool true]) := he
        clear he
        subst he2
        have HY := Lib.hid hy
        have HRY := Lib.hid (ref_yes hy)
        have HO := Lib.hid ho
        have HB2 := Lib.hid (HB0.out.trans (hb2.mono HB0.out.size))
        have HZ2 := Lib.hid ((hb2.block _ (blk_lt HZ.out)).trans HZ.out)
        have HLT := Lib.hid (blk_lt HZ.out)
        clear hy ho hb2
        go_upto_region 4 with (fail)
        obtain ⟨w3, hw3, h3, hb3, hz3⟩ := bt_new (W := w2) (cs := #[.int .u8 x.f0, .int .u8 x.f1.f0, .string x.f1.f1, .int .i64 x.f1.f2.f0, .int .i64 x.f1.f2.f1, .int .i64 x.f1.f2.f2, .int .i64 x.f1.f3, .slice A3 x.f2.length c3, .int .i64 a2, .bool true])
        rw [hw3]
        have HB3 := Lib.hid (HB2.out.trans (hb3.mono HB2.out.size))
        have HZ3 := Lib.hid ((hb3.block _ (blk_lt HZ2.out)).trans HZ2.out)
        have HO3 := Lib.hid (ownS_below HO.out hb3)
        obtain ⟨r0, r1, r2, r3, r4, r5, r6, r7, r8, r9⟩ := bt_box h3 w3 (Below.refl _ _)
        clear hw3 h3 hb3 hz3
        by_cases ha : a2 = n
        · have hrun : runB l [] = some x := by rw [HRY.out, if_pos (by rw [ha, HL.out])]
          have HRUN := Lib.hid hrun
          have da : ((a2 : Int) != (n : Int)) = false := by rw [ha]; simp
          have da2 : (a2 != n) = false := by rw [ha]; simp
          clear hrun
          subst ha
          go_wp2_with ((with_reducible refine gate_ (.store TN (.tmp 2) (.tmp 30)) rfl ?_); refine wl_box rfl rfl _ _ _ rfl (.agg (ndCells x.f0 x.f1 (.slice A3 x.f2.length c3)).toArray) (ndCells x.f0 x.f1 (.slice A3 x.f2.length c3)) rfl rfl rfl infoNd8 (ndCells_one _ _ rfl) HZ3.out rfl ?_; intro w5 h5 hu5; have HU := Lib.hid hu5; obtain ⟨s0, s1, s2, s3, s4, s5, s6, s7⟩ := nd_box h5 w5 (Below.refl _ _); clear h5 hu5)
          refine bodyPost_ret (v := .tuple #[.agg (ndCells x.f0 x.f1 (.slice A3 x.f2.length c3)).toArray, .int .i64 0]) ?_ rfl ⟨.slice A3 x.f2.length c3, ?_, ?_, HU.out.below HB3.out (Nat.le_refl _)⟩
          · rw [results_cell_tmp rfl]
            go_simp
            try rfl
          · rw [bld_some HRUN.out]; rfl
          · rw [bld_some HRUN.out]
            exact ownS_lower HB0.out.size (ownS_step HO3.out (fun b _ hl => HU.out.far b (by have := hl.1; have := HLT.out; omega)))
        · have hrun : runB l [] = none := by rw [HRY.out, if_neg (by rw [HL.out]; exact ha)]
          have HRUN := Lib.hid hrun
          have da : ((a2 : Int) != (n : Int)) = true := by simp; omega
          have da2 : (a2 != n) = true := by simp [ha]
          clear hrun
          go_wp2_with ((with_reducible refine gate_ (.store TN (.tmp 2) (.tmp 28)) rfl ?_); refine wl_box rfl rfl _ _ _ rfl (.agg (ndCells noNd.f0 noNd.f1 (.slice none 0 0)).toArray) (ndCells noNd.f0 noNd.f1 (.slice none 0 0)) rfl rfl rfl infoNd8 (ndCells_one _ _ rfl) HZ3.out rfl ?_; intro w5 h5 hu5; have HU := Lib.hid hu5; obtain ⟨s0, s1, s2, s3, s4, s5, s6, s7⟩ := nd_box h5 w5 (Below.refl _ _); clear h5 hu5)
          refine bodyPost_ret (v := .tuple #[.agg zNd.toArray, .int .i64 130]) ?_ rfl (BuildPost.err HRUN.out (HU.out.below HB3.out (Nat.le_refl _)))
          rw [results_cell_tmp rfl]
          go_simp
          try (first | rfl | (repeat' apply And.intro) <;> rfl)
      · have he2 : e = .returned (.agg #[.int .u8 y.f0, .int .u8 y.f1.f0, .string y.f1.f1, .int .i64 y.f1.f2.f0, .int .i64 y.f1.f2.f1, .int .i64 y.f1.f2.f2, .int .i64 y.f1.f3, .slice none 0 0, .int .i64 z, .bool false]) := he
        clear he
        subst he2
        have HRUN := Lib.hid (ref_no hno)
        have HB2 := Lib.hid (HB0.out.trans (hb2.mono HB0.out.size))
        have HZ2 := Lib.hid ((hb2.block _ (blk_lt HZ.out)).trans HZ.out)
        clear hno hb2
        go_upto_region 4 with (fail)
        obtain ⟨w3, hw3, h3, hb3, hz3⟩ := bt_new (W := w2) (cs := #[.int .u8 y.f0, .int .u8 y.f1.f0, .string y.f1.f1, .int .i64 y.f1.f2.f0, .int .i64 y.f1.f2.f1, .int .i64 y.f1.f2.f2, .int .i64 y.f1.f3, .slice none 0 0, .int .i64 z, .bool false])
        rw [hw3]
        have HB3 := Lib.hid (HB2.out.trans (hb3.mono HB2.out.size))
        have HZ3 := Lib.hid ((hb3.block _ (blk_lt HZ2.out)).trans HZ2.out)
        obtain ⟨r0, r1, r2, r3, r4, r5, r6, r7, r8, r9⟩ := bt_box h3 w3 (Below.refl _ _)
        clear hw3 h3 hb3 hz3
        go_wp2_with ((with_reducible refine gate_ (.store TN (.tmp 2) (.tmp 28)) rfl ?_); refine wl_box rfl rfl _ _ _ rfl (.agg (ndCells noNd.f0 noNd.f1 (.slice none 0 0)).toArray) (ndCells noNd.f0 noNd.f1 (.slice none 0 0)) rfl rfl rfl infoNd8 (ndCells_one _ _ rfl) HZ3.out rfl ?_; intro w5 h5 hu5; have HU := Lib.hid hu5; obtain ⟨s0, s1, s2, s3, s4, s5, s6, s7⟩ := nd_box h5 w5 (Below.refl _ _); clear h5 hu5)
        refine bodyPost_ret (v := .tuple #[.agg zNd.toArray, .int .i64 130]) ?_ rfl (BuildPost.err HRUN.out (HU.out.below HB3.out (Nat.le_refl _)))
        rw [results_cell_tmp rfl]
        go_simp
        try (first | rfl | (repeat' apply And.intro) <;> rfl)
    · have d1 : (k != 1) = true := by simp [hk]
      have HRUN := Lib.hid (ref_bld (l := l) (fun e' he' => by rw [he] at he'; cases he'; exact hk))
      clear he
      go_enter Try.func10, Try.ntmps10
      go_wp2
      refine bodyPost_ret (v := .tuple #[.agg zNd.toArray, .int .i64 130]) ?_ rfl (BuildPost.err HRUN.out ((Below.refl _ w).alloc (Nat.le_refl _) _))
      rw [results_cell_tmp rfl]
      go_simp
      try (first | rfl | (repeat' apply And.intro) <;> rfl)
end Go.Proofs.Ytfefldkljbbbpaa
