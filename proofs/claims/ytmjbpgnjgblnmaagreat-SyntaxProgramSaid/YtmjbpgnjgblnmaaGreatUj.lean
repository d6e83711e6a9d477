/- What the claim stands on: part Uj. -/
import Derived.Test.YtmjbpgnjgblnmaaGreatUi
import Derived.Test.YtmjbpgnjgblnmaaGreatUf
import Derived.Test.YtmjbpgnjgblnmaaGreatUe
import Derived.Test.YtmjbpgnjgblnmaaGreatUc
import Derived.Defers
import Derived.Recover
import Derived.Tactics2
import Derived.WideLaws
set_option maxRecDepth 100000
set_option maxHeartbeats 8000000
set_option linter.unusedVariables false
set_option linter.unusedSimpArgs false
namespace Go.Proofs.YtmjbpgnjgblnmaaGreat.Tr
open Go.RowKit Go.Proofs.YtmjbpgnjgblnmaaGreatW.PrintWords Go.Proofs.YtmjbpgnjgblnmaaGreatW.PrintLast Go.Proofs.YtmjbpgnjgblnmaaGreatW.PrintMore
theorem build_any (A : Option Addr) (n c : Nat) (l : List Ev) (w : World) (hr : Kd.C kEv w A n l) (hl : l.length = n) (hn : n ≤ 274877906945) :
  Calls Tryz.prog 19 #[.slice A n c] w fun e w' => BuildPost w l e w' := by
 have HR := zh hr
 have HL := zh hl
 have HI0 := zh (BInv.start w l)
 clear hr hl
 go_enter Tryz.func19, Tryz.ntmps19
 go_wp2
 go_loopw [4, 12] (fun v iv wr => ∃ (i : Nat) (S : List Nd), i ≤ n ∧ iv = .int .i64 i ∧ Hid (BInv w wr l i v S)) (fun _ iv _ => n - (intOf iv).toNat)
 case atStart => exact ⟨0, [], by omega, rfl, HI0⟩
 case round =>
  clear HI0
  obtain ⟨i, S, hi, rfl, H⟩ := hrel
  obtain ⟨Av, cv, hv⟩ := (ownS_C H.out.own)
  have hSl := H.out.small.1
  rw [List.length_reverse] at hv
  obtain ⟨hv, _, _⟩ := hv
  obtain ⟨sl, hsl⟩ : ∃ sl, S.length = sl := ⟨_, rfl⟩
  rw [hsl] at hv hSl
  subst hv
  have HSL := zh hsl
  clear hsl
  have HBX := zh H.out.box
  by_cases hlt : i < n
  ·obtain ⟨e, he⟩ : ∃ e, l[i]? = some e := ⟨l[i]'(by rw [HL.out]; exact hlt), List.getElem?_eq_getElem _⟩
   obtain ⟨ad, rfl, e0, e1, e2, e3, e4, e5, e6, e7⟩ := (evAt_of HR.out i e hlt he).cell
   have HDR : Hid (runB (e :: l.drop (i + 1)) S = runB l []) := zh (by rw [← drop_cons he]; exact H.out.run)
   clear he
   have hb := H.out.out
   replace e0 := pw_cell_below hb e0
   replace e1 := pw_cell_below hb e1
   replace e2 := pw_cell_below hb e2
   replace e3 := pw_cell_below hb e3
   replace e4 := pw_cell_below hb e4
   replace e5 := pw_cell_below hb e5
   replace e6 := pw_cell_below hb e6
   replace e7 := pw_cell_below hb e7
   clear hb
   obtain ⟨k, nd, tk⟩ := e
   obtain ⟨k0, tx, ⟨p0, p1, p2⟩, fd⟩ := tk
   dsimp only at *
   by_cases hk1 : k = 1
   ·subst hk1
    by_cases hz : nd = 0
    ·subst hz
     have hbx : ∀ w1, Below (wr.heap.size + 1) (wr.alloc (.cells #[.int .u8 1, .int .u8 0, .int .u8 k0, .string tx, .int .i64 p0, .int .i64 p1, .int .i64 p2, .int .i64 fd] 48)) w1 → _ := fun w1 h => box8 h
     have hbo := H.out.out
     have hbi := H.out.below
     obtain ⟨W1, hW1⟩ : ∃ W1, wr.alloc (.cells #[.int .u8 1, .int .u8 0, .int .u8 k0, .string tx, .int .i64 p0, .int .i64 p1, .int .i64 p2, .int .i64 fd] 48) = W1 := ⟨_, rfl⟩
     have hs1 : W1.heap.size = wr.heap.size + 1 := by rw [← hW1, World.size_alloc]
     have hb1 : Below wr.heap.size wr W1 := by rw [← hW1]; exact (Below.refl wr.heap.size wr).alloc (Nat.le_refl _) _
     rw [hW1] at hbx
     have HS1 := zh hs1
     have HBY := zh hbx
     have HW1 := zh hW1
     have HB1 := zh hb1
     have HBI := zh hbi
     have hbox := zh (box_later HBX.out hb1)
     have hout := zh (hbo.trans (hb1.mono hbo.size))
     have HSZ : Hid (w.heap.size + 1 ≤ wr.heap.size) := zh (by have h := hbi.size; simp only [World.size_alloc] at h; exact h)
     clear hs1 hbx hW1 hb1 hbo hbi
     go_upto_region 7 with (fail)
     rw [HW1.out]
     obtain ⟨y0, y1, y2, y3, y4, y5, y6, y7⟩ := HBY.out W1 (Below.refl _ _)
     have HRN : Hid (runB l [] = none) := zh (by rw [← HDR.out]; simp [runB])
     go_wp2_with ((with_reducible refine gate_ (.store 32 (.tmp 2) (.tmp 39)) rfl ?_); refine wl_box rfl rfl _ _ _ rfl (.agg zNd.toArray) zNd rfl rfl rfl infoNd8 zNd_one hbox.out rfl ?_; intro w5 h5 hu; have H5 := zh (hu.below hout.out (Nat.le_refl _)); clear hu; obtain ⟨c0, c1, c2, c3, c4, c5, c6, c7⟩ := cells8 h5; clear h5)
     refine bodyPost_ret (v := .tuple #[.agg zNd.toArray, .int .i64 130]) ?_ rfl (BuildPost.err HRN.out H5.out)
     rw [results_cell_tmp rfl]
     go_simp
     try rfl
    ·have dz : (nd == 0) = false := beq_eq_false_iff_ne.2 hz
     by_cases hs1 : sl = 1000
     ·subst hs1
      have hbx : ∀ w1, Below (wr.heap.size + 1) (wr.alloc (.cells #[.int .u8 1, .int .u8 nd, .int .u8 k0, .string tx, .int .i64 p0, .int .i64 p1, .int .i64 p2, .int .i64 fd] 48)) w1 → _ := fun w1 h => box8 h
      have hbo := H.out.out
      have hbi := H.out.below
      obtain ⟨W1, hW1⟩ : ∃ W1, wr.alloc (.cells #[.int .u8 1, .int .u8 nd, .int .u8 k0, .string tx, .int .i64 p0, .int .i64 p1, .int .i64 p2, .int .i64 fd] 48) = W1 := ⟨_, rfl⟩
      have hs1 : W1.heap.size = wr.heap.size + 1 := by rw [← hW1, World.size_alloc]
      have hb1 : Below wr.heap.size wr W1 := by rw [← hW1]; exact (Below.refl wr.heap.size wr).alloc (Nat.le_refl _) _
      rw [hW1] at hbx
      have HS1 := zh hs1
      have HBY := zh hbx
      have HW1 := zh hW1
      have HB1 := zh hb1
      have HBI := zh hbi
      have hbox := zh (box_later HBX.out hb1)
      have hout := zh (hbo.trans (hb1.mono hbo.size))
      have HSZ : Hid (w.heap.size + 1 ≤ wr.heap.size) := zh (by have h := hbi.size; simp only [World.size_alloc] at h; exact h)
      clear hs1 hbx hW1 hb1 hbo hbi
      go_upto_region 7 with (fail)
      rw [HW1.out]
      obtain ⟨y0, y1, y2, y3, y4, y5, y6, y7⟩ := HBY.out W1 (Below.refl _ _)
      have HRN : Hid (runB l [] = none) := zh (by rw [← HDR.out]; simp [runB, HSL.out])
      go_wp2_with ((with_reducible refine gate_ (.store 32 (.tmp 2) (.tmp 39)) rfl ?_); refine wl_box rfl rfl _ _ _ rfl (.agg zNd.toArray) zNd rfl rfl rfl infoNd8 zNd_one hbox.out rfl ?_; intro w5 h5 hu; have H5 := zh (hu.below hout.out (Nat.le_refl _)); clear hu; obtain ⟨c0, c1, c2, c3, c4, c5, c6, c7⟩ := cells8 h5; clear h5)
      refine bodyPost_ret (v := .tuple #[.agg zNd.toArray, .int .i64 130]) ?_ rfl (BuildPost.err HRN.out H5.out)
      rw [results_cell_tmp rfl]
      go_simp
      try rfl
     ·by_cases hs0 : sl = 0
      ·subst hs0
       have hi0 : i = 0 := H.out.nz (List.eq_nil_of_length_eq_zero HSL.out)
       have di : decide ((0 : Int) < (i : Int)) = false := decide_eq_false (by omega)
       have di2 : decide (0 < i) = false := decide_eq_false (by omega)
       clear hi0
       have hbx : ∀ w1, Below (wr.heap.size + 1) (wr.alloc (.cells #[.int .u8 1, .int .u8 nd, .int .u8 k0, .string tx, .int .i64 p0, .int .i64 p1, .int .i64 p2, .int .i64 fd] 48)) w1 → _ := fun w1 h => box8 h
       have hbo := H.out.out
       have hbi := H.out.below
       obtain ⟨W1, hW1⟩ : ∃ W1, wr.alloc (.cells #[.int .u8 1, .int .u8 nd, .int .u8 k0, .string tx, .int .i64 p0, .int .i64 p1, .int .i64 p2, .int .i64 fd] 48) = W1 := ⟨_, rfl⟩
       have hs1 : W1.heap.size = wr.heap.size + 1 := by rw [← hW1, World.size_alloc]
       have hb1 : Below wr.heap.size wr W1 := by rw [← hW1]; exact (Below.refl wr.heap.size wr).alloc (Nat.le_refl _) _
       rw [hW1] at hbx
       have HS1 := zh hs1
       have HBY := zh hbx
       have HW1 := zh hW1
       have HB1 := zh hb1
       have HBI := zh hbi
       have hbox := zh (box_later HBX.out hb1)
       have hout := zh (hbo.trans (hb1.mono hbo.size))
       have HSZ : Hid (w.heap.size + 1 ≤ wr.heap.size) := zh (by have h := hbi.size; simp only [World.size_alloc] at h; exact h)
       clear hs1 hbx hW1 hb1 hbo hbi
       go_upto_region 7 with (fail)
       rw [HW1.out]
       obtain ⟨y0, y1, y2, y3, y4, y5, y6, y7⟩ := HBY.out W1 (Below.refl _ _)
       have hown := ownS_below H.out.own HB1.out
       obtain ⟨cells, G, r2, r3, r4, r5⟩ := hown
       rw [List.length_reverse, HSL.out] at r2
       have HS7 : Hid (0 ≠ 1000) := zh (by omega)
       have HP : Hid ((∀ b, (Value.slice Av 0 cv).ownBlock = some b → True ∧ ¬ G b) ∧ OwnL W1 (w.heap.size + 1) S.reverse cells G) := zh ⟨r4, r3⟩
       have R2 := zh r2
       have hfit : Hid ((0 + 1) * 88 ≤ 140737488355328) := zh (by omega)
       have hbs : Hid (w.heap.size + 1 ≤ W1.heap.size) := zh (by have h1 := HS1.out; have h2 := HSZ.out; omega)
       have hBB : Hid (Below (w.heap.size + 1) (zBox w) W1) := zh (HBI.out.trans (HB1.out.mono HSZ.out))
       clear r2 r3 r4 r5
       go_wp2_with ((with_reducible refine gate_dst (N := 45) rfl ?_); refine print_append_cells (w0 := zBox w) (w.heap.size + 1) rfl (.tmp 40) (.tmp 44) 30 32 _ 8 88 rfl Tryz.underlying30 infoNd rfl (by decide) (by decide) (.slice Av 0 cv) 0 cells (ndCells nd noTk (.slice none 0 0)) rfl rfl rfl (ndCells_one _ _ rfl) R2.out hBB.out hbs.out hfit.out ?_; intro v1 w4 ho hb4 hg hat; have H4 := zh (And.intro ho (And.intro hb4 (And.intro hg hat))); clear ho hb4 hg hat)
       have HN : Hid (BInv w w4 l (i + 1) v1 (⟨nd, noTk, []⟩ :: S)) := zh (by
        obtain ⟨ho, hb4, hg, hat⟩ := H4.out
        have hgs := grown_S (kids := S.reverse) (x := ⟨nd, noTk, []⟩) (F := fun _ => True) (Fx := fun _ => False) (by rw [List.length_reverse, HSL.out]; exact R2.out) HP.out.2 HP.out.1 (fun _ _ => trivial) (kid_own _ _ nd noTk _) (fun _ _ h => h) (by rw [List.length_reverse, HSL.out]; exact ho) hg hat
        refine ⟨?_, H.out.small.push nd (by have := HSL.out; omega), (fun h => by cases h), ?_, hb4⟩
        ·rw [← HDR.out]; simp [runB, hz, HSL.out, HS7.out]
        ·rw [List.reverse_cons]; exact ownS_mono hgs (fun _ _ => trivial))
       go_roundw
       case rel => exact ⟨i + 1, _, by omega, by go_num, HN⟩
       case measure => simp [intOf]; omega
      ·have ds0 : ((sl : Int) == 0) = false := beq_eq_false_iff_ne.2 (by omega)
       have ds1 : ((sl : Int) == 1000) = false := beq_eq_false_iff_ne.2 (by omega)
       have hbx : ∀ w1, Below (wr.heap.size + 1) (wr.alloc (.cells #[.int .u8 1, .int .u8 nd, .int .u8 k0, .string tx, .int .i64 p0, .int .i64 p1, .int .i64 p2, .int .i64 fd] 48)) w1 → _ := fun w1 h => box8 h
       have hbo := H.out.out
       have hbi := H.out.below
       obtain ⟨W1, hW1⟩ : ∃ W1, wr.alloc (.cells #[.int .u8 1, .int .u8 nd, .int .u8 k0, .string tx, .int .i64 p0, .int .i64 p1, .int .i64 p2, .int .i64 fd] 48) = W1 := ⟨_, rfl⟩
       have hs1 : W1.heap.size = wr.heap.size + 1 := by rw [← hW1, World.size_alloc]
       have hb1 : Below wr.heap.size wr W1 := by rw [← hW1]; exact (Below.refl wr.heap.size wr).alloc (Nat.le_refl _) _
       rw [hW1] at hbx
       have HS1 := zh hs1
       have HBY := zh hbx
       have HW1 := zh hW1
       have HB1 := zh hb1
       have HBI := zh hbi
       have hbox := zh (box_later HBX.out hb1)
       have hout := zh (hbo.trans (hb1.mono hbo.size))
       have HSZ : Hid (w.heap.size + 1 ≤ wr.heap.size) := zh (by have h := hbi.size; simp only [World.size_alloc] at h; exact h)
       clear hs1 hbx hW1 hb1 hbo hbi
       go_upto_region 7 with (fail)
       rw [HW1.out]
       obtain ⟨y0, y1, y2, y3, y4, y5, y6, y7⟩ := HBY.out W1 (Below.refl _ _)
       have hown := ownS_below H.out.own HB1.out
       obtain ⟨cells, G, r2, r3, r4, r5⟩ := hown
       rw [List.length_reverse, HSL.out] at r2
       have HS7 : Hid (sl ≠ 1000) := zh (by omega)
       have HP : Hid ((∀ b, (Value.slice Av sl cv).ownBlock = some b → True ∧ ¬ G b) ∧ OwnL W1 (w.heap.size + 1) S.reverse cells G) := zh ⟨r4, r3⟩
       have R2 := zh r2
       have hfit : Hid ((sl + 1) * 88 ≤ 140737488355328) := zh (by omega)
       have hbs : Hid (w.heap.size + 1 ≤ W1.heap.size) := zh (by have h1 := HS1.out; have h2 := HSZ.out; omega)
       have hBB : Hid (Below (w.heap.size + 1) (zBox w) W1) := zh (HBI.out.trans (HB1.out.mono HSZ.out))
       clear r2 r3 r4 r5
       go_wp2_with ((with_reducible refine gate_dst (N := 45) rfl ?_); refine print_append_cells (w0 := zBox w) (w.heap.size + 1) rfl (.tmp 40) (.tmp 44) 30 32 _ 8 88 rfl Tryz.underlying30 infoNd rfl (by decide) (by decide) (.slice Av sl cv) sl cells (ndCells nd noTk (.slice none 0 0)) rfl rfl rfl (ndCells_one _ _ rfl) R2.out hBB.out hbs.out hfit.out ?_; intro v1 w4 ho hb4 hg hat; have H4 := zh (And.intro ho (And.intro hb4 (And.intro hg hat))); clear ho hb4 hg hat)
       have HN : Hid (BInv w w4 l (i + 1) v1 (⟨nd, noTk, []⟩ :: S)) := zh (by
        obtain ⟨ho, hb4, hg, hat⟩ := H4.out
        have hgs := grown_S (kids := S.reverse) (x := ⟨nd, noTk, []⟩) (F := fun _ => True) (Fx := fun _ => False) (by rw [List.length_reverse, HSL.out]; exact R2.out) HP.out.2 HP.out.1 (fun _ _ => trivial) (kid_own _ _ nd noTk _) (fun _ _ h => h) (by rw [List.length_reverse, HSL.out]; exact ho) hg hat
        refine ⟨?_, H.out.small.push nd (by have := HSL.out; omega), (fun h => by cases h), ?_, hb4⟩
        ·rw [← HDR.out]; simp [runB, hz, HSL.out, HS7.out]
        ·rw [List.reverse_cons]; exact ownS_mono hgs (fun _ _ => trivial))
       go_roundw
       case rel => exact ⟨i + 1, _, by omega, by go_num, HN⟩
       case measure => simp [intOf]; omega
   ·have dk1 : (k == 1) = false := beq_eq_false_iff_ne.2 hk1
    by_cases hk2 : k = 2
    ·subst hk2
     by_cases hS : S = []
     ·subst hS
      have hsl0 : sl = 0 := HSL.out.symm
      subst hsl0
      have hbx : ∀ w1, Below (wr.heap.size + 1) (wr.alloc (.cells #[.int .u8 2, .int .u8 nd, .int .u8 k0, .string tx, .int .i64 p0, .int .i64 p1, .int .i64 p2, .int .i64 fd] 48)) w1 → _ := fun w1 h => box8 h
      have hbo := H.out.out
      have hbi := H.out.below
      obtain ⟨W1, hW1⟩ : ∃ W1, wr.alloc (.cells #[.int .u8 2, .int .u8 nd, .int .u8 k0, .string tx, .int .i64 p0, .int .i64 p1, .int .i64 p2, .int .i64 fd] 48) = W1 := ⟨_, rfl⟩
      have hs1 : W1.heap.size = wr.heap.size + 1 := by rw [← hW1, World.size_alloc]
      have hb1 : Below wr.heap.size wr W1 := by rw [← hW1]; exact (Below.refl wr.heap.size wr).alloc (Nat.le_refl _) _
      rw [hW1] at hbx
      have HS1 := zh hs1
      have HBY := zh hbx
      have HW1 := zh hW1
      have HB1 := zh hb1
      have HBI := zh hbi
      have hbox := zh (box_later HBX.out hb1)
      have hout := zh (hbo.trans (hb1.mono hbo.size))
      have HSZ : Hid (w.heap.size + 1 ≤ wr.heap.size) := zh (by have h := hbi.size; simp only [World.size_alloc] at h; exact h)
      clear hs1 hbx hW1 hb1 hbo hbi
      go_upto_region 7 with (fail)
      rw [HW1.out]
      obtain ⟨y0, y1, y2, y3, y4, y5, y6, y7⟩ := HBY.out W1 (Below.refl _ _)
      go_wp2
      go_quiet (fail)
      have HRN : Hid (runB l [] = none) := zh (by rw [← HDR.out]; simp [runB])
      go_wp2_with ((with_reducible refine gate_ (.store 32 (.tmp 2) (.tmp 61)) rfl ?_); refine wl_box rfl rfl _ _ _ rfl (.agg zNd.toArray) zNd rfl rfl rfl infoNd8 zNd_one hbox.out rfl ?_; intro w5 h5 hu; have H5 := zh (hu.below (pw_below_drewN hout.out _) (Nat.le_refl _)); clear hu; obtain ⟨c0, c1, c2, c3, c4, c5, c6, c7⟩ := cells8 h5; clear h5)
      refine bodyPost_ret (v := .tuple #[.agg zNd.toArray, .int .i64 130]) ?_ rfl (BuildPost.err HRN.out H5.out)
      rw [results_cell_tmp rfl]
      go_simp
      try rfl
     ·obtain ⟨t, S', rfl⟩ : ∃ t S', S = t :: S' := List.exists_cons_of_ne_nil hS
      by_cases hno : isNote ⟨k0, tx, ⟨p0, p1, p2⟩, fd⟩ = true
      ·clear hS
       have hsS : S'.length + 1 = sl := HSL.out
       obtain ⟨m, rfl⟩ : ∃ m, sl = m + 1 := ⟨S'.length, hsS.symm⟩
       have dm : ((m : Int) + 1 == 0) = false := beq_eq_false_iff_ne.2 (by omega)
       clear hsS
       have HNO := zh hno
       clear hno
       have hbx : ∀ w1, Below (wr.heap.size + 1) (wr.alloc (.cells #[.int .u8 2, .int .u8 nd, .int .u8 k0, .string tx, .int .i64 p0, .int .i64 p1, .int .i64 p2, .int .i64 fd] 48)) w1 → _ := fun w1 h => box8 h
       have hbo := H.out.out
       have hbi := H.out.below
       obtain ⟨W1, hW1⟩ : ∃ W1, wr.alloc (.cells #[.int .u8 2, .int .u8 nd, .int .u8 k0, .string tx, .int .i64 p0, .int .i64 p1, .int .i64 p2, .int .i64 fd] 48) = W1 := ⟨_, rfl⟩
       have hs1 : W1.heap.size = wr.heap.size + 1 := by rw [← hW1, World.size_alloc]
       have hb1 : Below wr.heap.size wr W1 := by rw [← hW1]; exact (Below.refl wr.heap.size wr).alloc (Nat.le_refl _) _
       rw [hW1] at hbx
       have HS1 := zh hs1
       have HBY := zh hbx
       have HW1 := zh hW1
       have HB1 := zh hb1
       have HBI := zh hbi
       have hbox := zh (box_later HBX.out hb1)
       have hout := zh (hbo.trans (hb1.mono hbo.size))
       have HSZ : Hid (w.heap.size + 1 ≤ wr.heap.size) := zh (by have h := hbi.size; simp only [World.size_alloc] at h; exact h)
       clear hs1 hbx hW1 hb1 hbo hbi
       go_upto_region 7 with (fail)
       rw [HW1.out]
       obtain ⟨y0, y1, y2, y3, y4, y5, y6, y7⟩ := HBY.out W1 (Below.refl _ _)
       have CC := zh (comment_any ⟨k0, tx, ⟨p0, p1, p2⟩, fd⟩)
       clear y0 y1 y2 y3 y4 y5 y6 y7
       go_wp2
       have hb0 : Below (wr.heap.size + 1) W1 W1.drew := (Below.refl _ _).drew
       have HB0 := zh hb0
       clear hb0
       have k1 := HBY.out _ HB0.out
       go_region_held3 (fun w' => w'.cell? ⟨wr.heap.size, 0, none⟩ = some (.int .u8 2) ∧ w'.cell? ⟨wr.heap.size, 2, none⟩ = some (.int .u8 k0) ∧ w'.cell? ⟨wr.heap.size, 3, none⟩ = some (.string tx) ∧ w'.cell? ⟨wr.heap.size, 4, none⟩ = some (.int .i64 p0) ∧ w'.cell? ⟨wr.heap.size, 5, none⟩ = some (.int .i64 p1) ∧ w'.cell? ⟨wr.heap.size, 6, none⟩ = some (.int .i64 p2) ∧ w'.cell? ⟨wr.heap.size, 7, none⟩ = some (.int .i64 fd))
        (first | exact ⟨k1.1, k1.2.2⟩ | exact ⟨k2.1, k2.2.2⟩ | go_keep)
        (first | (go_at_call 32; (with_reducible refine (CC.out _).mono ?_); rintro e w2 ⟨rfl, hb⟩; have hb2 := HB0.out.trans (hb.mono (Nat.le_of_eq HS1.out.symm)); have HB2 := zh hb2; have k2 := HBY.out _ HB2.out; clear hb hb2; rw [HNO.out]))
       have hbox2 : Hid (w2.heap[w.heap.size]? = some (.cells zNd.toArray TN (0, 0))) := zh (box_later HBX.out (HB1.out.trans (HB2.out.mono (Nat.le_succ _))))
       have hout2 : Hid (Below w.heap.size w w2) := zh (H.out.out.trans ((HB1.out.trans (HB2.out.mono (Nat.le_succ _))).mono H.out.out.size))
       have HRN : Hid (runB l [] = none) := zh (by rw [← HDR.out]; simp [runB, HNO.out])
       go_wp2_with ((with_reducible refine gate_ (.store 32 (.tmp 2) (.tmp 61)) rfl ?_); refine wl_box rfl rfl _ _ _ rfl (.agg zNd.toArray) zNd rfl rfl rfl infoNd8 zNd_one hbox2.out rfl ?_; intro w5 h5 hu; have H5 := zh (hu.below hout2.out (Nat.le_refl _)); clear hu; obtain ⟨c0, c1, c2, c3, c4, c5, c6, c7⟩ := cells8 h5; clear h5)
       refine bodyPost_ret (v := .tuple #[.agg zNd.toArray, .int .i64 130]) ?_ rfl (BuildPost.err HRN.out H5.out)
       rw [results_cell_tmp rfl]
       go_simp
       try rfl
      ·clear hS
       replace hno : isNote ⟨k0, tx, ⟨p0, p1, p2⟩, fd⟩ = false := by revert hno; cases isNote ⟨k0, tx, ⟨p0, p1, p2⟩, fd⟩ <;> simp
       have HNO := zh hno
       clear hno
       have hown := H.out.own
       rw [List.reverse_cons] at hown
       obtain ⟨g, cap, u, hgu, htx⟩ := tops_of hown
       rw [List.length_reverse] at hgu
       have hsS : S'.length + 1 = sl := HSL.out
       rw [hsS] at hgu
       injection hgu with hg1 _ hg3
       subst hg1; subst hg3
       obtain ⟨m, rfl⟩ : ∃ m, sl = m + 1 := ⟨S'.length, hsS.symm⟩
       obtain ⟨Au, cu, hu⟩ := top_slice htx
       obtain ⟨q, hq⟩ : ∃ q, t.f2.length = q := ⟨_, rfl⟩
       have hqi : q ≤ i := by rw [← hq]; exact H.out.small.2 t List.mem_cons_self
       rw [hq] at hu
       subst hu
       obtain ⟨cells, G1, G2, kc, Gk, hX⟩ := htx.top
       have HX0 := zh hX
       have HQ := zh hq
       have HM : Hid (S'.reverse.length = m) := zh (by rw [List.length_reverse]; omega)
       have dm : ((m : Int) + 1 == 0) = false := beq_eq_false_iff_ne.2 (by omega)
       clear hown htx hX hq hsS
       have hbx : ∀ w1, Below (wr.heap.size + 1) (wr.alloc (.cells #[.int .u8 2, .int .u8 nd, .int .u8 k0, .string tx, .int .i64 p0, .int .i64 p1, .int .i64 p2, .int .i64 fd] 48)) w1 → _ := fun w1 h => box8 h
       have hbo := H.out.out
       have hbi := H.out.below
       obtain ⟨W1, hW1⟩ : ∃ W1, wr.alloc (.cells #[.int .u8 2, .int .u8 nd, .int .u8 k0, .string tx, .int .i64 p0, .int .i64 p1, .int .i64 p2, .int .i64 fd] 48) = W1 := ⟨_, rfl⟩
       have hs1 : W1.heap.size = wr.heap.size + 1 := by rw [← hW1, World.size_alloc]
       have hb1 : Below wr.heap.size wr W1 := by rw [← hW1]; exact (Below.refl wr.heap.size wr).alloc (Nat.le_refl _) _
       rw [hW1] at hbx
       have HS1 := zh hs1
       have HBY := zh hbx
       have HW1 := zh hW1
       have HB1 := zh hb1
       have HBI := zh hbi
       have hbox := zh (box_later HBX.out hb1)
       have hout := zh (hbo.trans (hb1.mono hbo.size))
       have HSZ : Hid (w.heap.size + 1 ≤ wr.heap.size) := zh (by have h := hbi.size; simp only [World.size_alloc] at h; exact h)
       clear hs1 hbx hW1 hb1 hbo hbi
       go_upto_region 7 with (fail)
       rw [HW1.out]
       obtain ⟨y0, y1, y2, y3, y4, y5, y6, y7⟩ := HBY.out W1 (Below.refl _ _)
       have CC := zh (comment_any ⟨k0, tx, ⟨p0, p1, p2⟩, fd⟩)
       clear y0 y1 y2 y3 y4 y5 y6 y7
       go_wp2
       have hb0 : Below (wr.heap.size + 1) W1 W1.drew := (Below.refl _ _).drew
       have HB0 := zh hb0
       clear hb0
       have k1 := HBY.out _ HB0.out
       go_region_held3 (fun w' => w'.cell? ⟨wr.heap.size, 0, none⟩ = some (.int .u8 2) ∧ w'.cell? ⟨wr.heap.size, 2, none⟩ = some (.int .u8 k0) ∧ w'.cell? ⟨wr.heap.size, 3, none⟩ = some (.string tx) ∧ w'.cell? ⟨wr.heap.size, 4, none⟩ = some (.int .i64 p0) ∧ w'.cell? ⟨wr.heap.size, 5, none⟩ = some (.int .i64 p1) ∧ w'.cell? ⟨wr.heap.size, 6, none⟩ = some (.int .i64 p2) ∧ w'.cell? ⟨wr.heap.size, 7, none⟩ = some (.int .i64 fd))
        (first | exact ⟨k1.1, k1.2.2⟩ | exact ⟨k2.1, k2.2.2⟩ | go_keep)
        (first | (go_at_call 32; (with_reducible refine (CC.out _).mono ?_); rintro e w2 ⟨rfl, hb⟩; have hb2 := HB0.out.trans (hb.mono (Nat.le_of_eq HS1.out.symm)); have HB2 := zh hb2; have k2 := HBY.out _ HB2.out; clear hb hb2; rw [HNO.out]))
       go_wp2
       have HBD : Hid (Below (wr.heap.size + 1) W1 w2.drew) := zh HB2.out.drew
       obtain ⟨W, hWd⟩ : ∃ W, w2.drew = W := ⟨_, rfl⟩
       have HWd := zh hWd
       rw [hWd] at HBD
       have HRW : Hid (Below wr.heap.size wr W) := zh (HB1.out.trans (HBD.out.mono (Nat.le_succ _)))
       have k3 := HBY.out W HBD.out
       clear hWd
       have HX1 : Hid (TopsX W (w.heap.size + 1) g cv S'.reverse t (.slice Au q cu) (fun _ => True) cells G1 G2 kc Gk) := zh (topsX_later HX0.out HRW.out)
       have HX := HX1
       clear HX1
       have HKR : Hid (W.ownsRow (w.heap.size + 1) TN 8 (.slice Au q cu) q kc) := zh (by have := HX.out.krow; rw [HQ.out] at this; exact this)
       have HBA : Hid (w.heap.size + 1 ≤ W.heap.size) := zh (by have h1 := H.out.below.size; have h2 := HRW.out.size; simp only [World.size_alloc] at h1; omega)
       have HQ8 : Hid ((q + 1) * 88 ≤ 140737488355328) := zh (by omega)
       have HKL : Hid (kc.length = q * 8) := zh (by rw [← HQ.out]; exact ownL_len HX.out.kids)
       have HCL : Hid (cells.length = m * 8) := zh (by rw [← HM.out]; exact ownL_len HX.out.rest)
       have HCL7 : Hid ((cells ++ ndPre t.f0 t.f1).length = m * 8 + 7) := zh (by rw [List.length_append, HCL.out]; rfl)
       have k7 : W.cell? ⟨g, m * 8 + 7, none⟩ = some (.slice Au q cu) := by have := (topsX_at HX.out 7 _ rfl).1; rw [HM.out] at this; exact this
       have HSA : Hid (∀ w', Below W.heap.size W w' → w'.cell? ⟨g, m * 8 + 7, none⟩ = some (.slice Au q cu) ∧ w'.cell? ⟨wr.heap.size, 2, none⟩ = some (.int .u8 k0) ∧ w'.cell? ⟨wr.heap.size, 3, none⟩ = some (.string tx) ∧ w'.cell? ⟨wr.heap.size, 4, none⟩ = some (.int .i64 p0) ∧ w'.cell? ⟨wr.heap.size, 5, none⟩ = some (.int .i64 p1) ∧ w'.cell? ⟨wr.heap.size, 6, none⟩ = some (.int .i64 p2) ∧ w'.cell? ⟨wr.heap.size, 7, none⟩ = some (.int .i64 fd)) := zh fun w' hb => ⟨(hb.cell (World.block_lt_of_cell? W _ k7)).trans k7, (HBY.out w' (HBD.out.trans (hb.mono (by have h1 := HBD.out.size; have h2 := HS1.out; omega)))).2.2⟩
       have HXX : Hid (Own W (w.heap.size + 1) ⟨0, ⟨k0, tx, ⟨p0, p1, p2⟩, fd⟩, []⟩ (ndCells 0 ⟨k0, tx, ⟨p0, p1, p2⟩, fd⟩ (.slice none 0 0)) (fun _ => False)) := zh (kid_own _ _ _ _ _)
       refine wp_region_P (fun w' => w'.cell? ⟨g, m * 8 + 7, none⟩ = some (.slice Au q cu) ∧ w'.cell? ⟨wr.heap.size, 2, none⟩ = some (.int .u8 k0) ∧ w'.cell? ⟨wr.heap.size, 3, none⟩ = some (.string tx) ∧ w'.cell? ⟨wr.heap.size, 4, none⟩ = some (.int .i64 p0) ∧ w'.cell? ⟨wr.heap.size, 5, none⟩ = some (.int .i64 p1) ∧ w'.cell? ⟨wr.heap.size, 6, none⟩ = some (.int .i64 p2) ∧ w'.cell? ⟨wr.heap.size, 7, none⟩ = some (.int .i64 fd)) (fun j => Nat.ble j 8) (by kernel_rfl) ?_
       have HS : Hid (W.cell? ⟨g, m * 8 + 7, none⟩ = some (.slice Au q cu) ∧ W.cell? ⟨wr.heap.size, 2, none⟩ = some (.int .u8 k0) ∧ W.cell? ⟨wr.heap.size, 3, none⟩ = some (.string tx) ∧ W.cell? ⟨wr.heap.size, 4, none⟩ = some (.int .i64 p0) ∧ W.cell? ⟨wr.heap.size, 5, none⟩ = some (.int .i64 p1) ∧ W.cell? ⟨wr.heap.size, 6, none⟩ = some (.int .i64 p2) ∧ W.cell? ⟨wr.heap.size, 7, none⟩ = some (.int .i64 fd)) := zh ⟨k7, k3.2.2⟩
       rw [HWd.out]
       refine anyP_take (i := 0) (oi := ⟨some 67, .move (.tmp 7), 84, "tree.go:28", #[], none⟩) (v := ?_) rfl (by kernel_rfl) (fun _ _ _ h => h) (Or.inl ⟨by rfl, ?_⟩) HS.out ?_
       rotate_left
       ·intro x h; go_simp; try (with_reducible rfl)
       try simp only [Act.put,sA,List.set]
       refine anyP_take (i := 1) (oi := ⟨some 68, .nilCheck (.tmp 67), 0, "tree.go:28", #[⟨0, .data⟩], none⟩) (v := ?_) rfl (by kernel_rfl) (fun _ _ _ h => h) (Or.inl ⟨by rfl, ?_⟩) HS.out ?_
       rotate_left
       ·intro x h; go_simp; try (with_reducible rfl)
       try simp only [Act.put,sA,List.set]
       refine anyP_take (i := 2) (oi := ⟨some 69, .fieldAddr 32 (.tmp 68) 2, 0, "tree.go:28", #[⟨1, .data⟩], none⟩) (v := ?_) rfl (by kernel_rfl) (fun _ _ _ h => h) (Or.inl ⟨by rfl, ?_⟩) HS.out ?_
       rotate_left
       ·intro x h; go_simp; try (with_reducible rfl)
       try simp only [Act.put,sA,List.set]
       refine anyP_take (i := 3) (oi := ⟨some 70, .load 30 (.tmp 69), 30, "tree.go:28", #[⟨2, .data⟩], none⟩) (v := ?_) rfl (by kernel_rfl) (fun _ _ _ h => h) (Or.inl ⟨by rfl, ?_⟩) HS.out ?_
       rotate_left
       ·intro x h; go_simp; try (with_reducible rfl)
       try simp only [Act.put,sA,List.set]
       refine anyP_take (i := 4) (oi := ⟨some 71, .fieldAddr 48 (.tmp 6) 2, 0, "tree.go:28", #[], none⟩) (v := ?_) rfl (by kernel_rfl) (fun _ _ _ h => h) (Or.inl ⟨by rfl, ?_⟩) HS.out ?_
       rotate_left
       ·intro x h; go_simp; try (with_reducible rfl)
       try simp only [Act.put,sA,List.set]
       refine anyP_take (i := 5) (oi := ⟨some 72, .load 28 (.tmp 71), 28, "tree.go:28", #[⟨4, .data⟩], none⟩) (v := ?_) rfl (by kernel_rfl) (fun _ _ _ h => h) (Or.inl ⟨by rfl, ?_⟩) HS.out ?_
       rotate_left
       ·intro x h; go_simp; try (with_reducible rfl)
       try simp only [Act.put,sA,List.set]
       refine anyP_take (i := 6) (oi := ⟨some 73, .build 32 #[(1, .tmp 72)], 32, "tree.go:28", #[⟨5, .data⟩], none⟩) (v := ?_) rfl (by kernel_rfl) (fun _ _ _ h => h) (Or.inl ⟨by rfl, ?_⟩) HS.out ?_
       rotate_left
       ·intro x h; go_simp; try (with_reducible rfl)
       try simp only [Act.put,sA,List.set]
       refine anyP_take (i := 7) (oi := ⟨some 74, .call { callee := .builtin .len, args := #[.tmp 70], argTypes := #[30] }, 3, "tree.go:28", #[⟨3, .data⟩], none⟩) (v := ?_) rfl (by kernel_rfl) (fun _ _ _ h => h) (Or.inl ⟨by rfl, ?_⟩) HS.out ?_
       rotate_left
       ·intro x h; go_simp; try (with_reducible rfl)
       try simp only [Act.put,sA,List.set]
       refine anyP_ready (rs := [8]) (by kernel_rfl) (by simp) ?_
       refine ReadyP.cons (o := ⟨some 75, .buildSlice 30 1 #[(0, .const (.agg #[.int .u8 0, .int .u8 0, .string { data := #[] }, .int .i64 0, .int .i64 0, .int .i64 0, .int .i64 0, .slice none 0 0]))], 30, "tree.go:28", #[], none⟩) rfl (fun K hK => ?_) ReadyP.nil
       go_simp
       refine hK.out _ _ (fun _ => ?_) ?_
       ·exact HSA.out _ (Below.refl W.heap.size W |>.alloc (Nat.le_refl _) _)
       clear hK K
       try simp only [Act.put,sA,List.set]
       refine anyP_ready (rs := [9]) (by kernel_rfl) (by simp) ?_
       refine ReadyP.cons (o := ⟨some 76, .call { callee := .builtin .append, args := #[.tmp 70, .tmp 75], argTypes := #[30, 30] }, 30, "tree.go:28", #[⟨3, .data⟩, ⟨8, .data⟩, ⟨0, .phase⟩, ⟨1, .phase⟩, ⟨2, .phase⟩, ⟨3, .phase⟩, ⟨4, .phase⟩, ⟨5, .phase⟩, ⟨6, .phase⟩, ⟨7, .phase⟩, ⟨8, .phase⟩], none⟩) rfl (fun K hK => ?_) ReadyP.nil
       refine step_kid rfl (.tmp 70) (.tmp 75) rfl (w.heap.size + 1) (cs := zNd) rfl rfl HKR.out rfl zNd_one HBA.out HQ8.out ?_
       intro g1 c1 w1 ho hg hat
       refine hK.out _ _ (fun h => absurd h (by decide)) ?_
       clear hK K
       try simp only [Act.put,sA,List.set]
       have hr := row_grown HX.out hg
       have hne := g_ne HX.out hat
       rw [HM.out] at hr
       obtain ⟨cur1, hh1, hf1⟩ := (row_set_end ho (q * 8) (ndCells 0 ⟨k0, tx, ⟨p0, p1, p2⟩, fd⟩ (.slice none 0 0)) HKL.out rfl).2
       have hr' := hr
       rw [ndCells_pre, ← List.append_assoc] at hr'
       obtain ⟨cur2, hh2, hf2⟩ := (row_set_end (far_row hr' hne (q * 8) (ndCells 0 ⟨k0, tx, ⟨p0, p1, p2⟩, fd⟩ (.slice none 0 0))) (m * 8 + 7) [.slice (some ⟨g1, 0, none⟩) (q + 1) c1] HCL7.out rfl).2
       obtain ⟨cur3, hh3, hf3⟩ := (row_set_end hr' (m * 8 + 7) [.slice (some ⟨g1, 0, none⟩) (q + 1) c1] HCL7.out rfl).2
       obtain ⟨cur4, hh4, hf4⟩ := (row_set_end (far_row ho (Ne.symm hne) (m * 8 + 7) [.slice (some ⟨g1, 0, none⟩) (q + 1) c1]) (q * 8) (ndCells 0 ⟨k0, tx, ⟨p0, p1, p2⟩, fd⟩ (.slice none 0 0)) HKL.out rfl).2
       have HA := added HX.out HXX.out (fun _ h => h.elim) (fun _ h => h.elim) (fun h => h) hg hat HM.out HQ.out (two_a (zs := zNd) hr HCL.out ho HKL.out rfl rfl hne)
       have HC := added HX.out HXX.out (fun _ h => h.elim) (fun _ h => h.elim) (fun h => h) hg hat HM.out HQ.out (two_b (zs := zNd) hr HCL.out ho HKL.out rfl rfl hne)
       have HAH := zh HA
       have HCH := zh HC
       have HH1 := zh hh1
       have HF1 := zh hf1
       have HH2 := zh hh2
       have HF2 := zh hf2
       have HH3 := zh hh3
       have HF3 := zh hf3
       have HH4 := zh hh4
       have HF4 := zh hf4
       clear HA HC hh1 hf1 hh2 hf2 hh3 hf3 hh4 hf4 hr hr' ho hg hat hne
       have hqq : (q : Int) < (q : Int) + 1 := by omega
       refine anyP_take0 (i := 10) (oi := ⟨some 77, .indexAddr 30 (.tmp 76) (.tmp 74), 0, "tree.go:28", #[⟨9, .data⟩, ⟨7, .data⟩, ⟨0, .phase⟩, ⟨1, .phase⟩, ⟨2, .phase⟩, ⟨3, .phase⟩, ⟨4, .phase⟩, ⟨5, .phase⟩, ⟨6, .phase⟩, ⟨7, .phase⟩, ⟨8, .phase⟩, ⟨9, .phase⟩, ⟨14, .gcOnly .appendInPlace⟩], none⟩) (v := ?_) rfl (by kernel_rfl) (fun _ _ _ h => h) (Or.inl ⟨by rfl, ?_⟩) ?_
       rotate_left
       ·intro w9; go_simp; try (with_reducible rfl)
       try simp only [Act.put,sA,List.set]
       refine anyP_take0 (i := 12) (oi := ⟨some 78, .nilCheck (.tmp 67), 0, "tree.go:28", #[⟨0, .data⟩, ⟨0, .phase⟩, ⟨1, .phase⟩, ⟨2, .phase⟩, ⟨3, .phase⟩, ⟨4, .phase⟩, ⟨5, .phase⟩, ⟨6, .phase⟩, ⟨7, .phase⟩, ⟨8, .phase⟩, ⟨9, .phase⟩, ⟨10, .textOnly .appendInPlace⟩, ⟨11, .textOnly .appendInPlace⟩], none⟩) (v := ?_) rfl (by kernel_rfl) (fun _ _ _ h => h) (Or.inl ⟨by rfl, ?_⟩) ?_
       rotate_left
       ·intro w9; go_simp; try (with_reducible rfl)
       try simp only [Act.put,sA,List.set]
       refine anyP_take0 (i := 13) (oi := ⟨some 79, .fieldAddr 32 (.tmp 78) 2, 0, "tree.go:28", #[⟨12, .data⟩, ⟨0, .phase⟩, ⟨1, .phase⟩, ⟨2, .phase⟩, ⟨3, .phase⟩, ⟨4, .phase⟩, ⟨5, .phase⟩, ⟨6, .phase⟩, ⟨7, .phase⟩, ⟨8, .phase⟩, ⟨9, .phase⟩, ⟨10, .textOnly .appendInPlace⟩, ⟨11, .textOnly .appendInPlace⟩], none⟩) (v := ?_) rfl (by kernel_rfl) (fun _ _ _ h => h) (Or.inl ⟨by rfl, ?_⟩) ?_
       rotate_left
       ·intro w9; go_simp; try (with_reducible rfl)
       try simp only [Act.put,sA,List.set]
       refine anyP_ready (rs := [11, 14]) (by kernel_rfl) (by simp) ?_
       refine ReadyP.cons (o := ⟨none, .store 32 (.tmp 77) (.tmp 73), 0, "tree.go:28", #[⟨10, .data⟩, ⟨6, .data⟩, ⟨9, .chain⟩, ⟨0, .phase⟩, ⟨1, .phase⟩, ⟨2, .phase⟩, ⟨3, .phase⟩, ⟨4, .phase⟩, ⟨5, .phase⟩, ⟨6, .phase⟩, ⟨7, .phase⟩, ⟨8, .phase⟩, ⟨9, .phase⟩, ⟨14, .gcOnly .appendInPlace⟩], none⟩) rfl (fun K hK => ?_) (ReadyP.cons (o := ⟨none, .store 30 (.tmp 79) (.tmp 76), 0, "tree.go:28", #[⟨13, .data⟩, ⟨9, .data⟩, ⟨9, .chain⟩, ⟨11, .textOnly .appendInPlace⟩, ⟨0, .phase⟩, ⟨1, .phase⟩, ⟨2, .phase⟩, ⟨3, .phase⟩, ⟨4, .phase⟩, ⟨5, .phase⟩, ⟨6, .phase⟩, ⟨7, .phase⟩, ⟨8, .phase⟩, ⟨9, .phase⟩, ⟨10, .textOnly .appendInPlace⟩, ⟨11, .textOnly .appendInPlace⟩], none⟩) rfl (fun K hK => ?_) ReadyP.nil)
       ·refine step_store rfl rfl 32 (.tmp 77) (.tmp 73) rfl _ (ndCells 0 ⟨k0, tx, ⟨p0, p1, p2⟩, fd⟩ (.slice none 0 0)) rfl rfl rfl infoNd8 (ndCells_one 0 ⟨k0, tx, ⟨p0, p1, p2⟩, fd⟩ rfl) HH1.out HF1.out ?_
        refine hK.out _ _ (fun h => absurd h (by decide)) ?_
        clear hK K
        generalize w1.setCells g1 (q * 8) (ndCells 0 ⟨k0, tx, ⟨p0, p1, p2⟩, fd⟩ (.slice none 0 0)) = w2x at HH2 HAH ⊢
        refine anyP_ready (rs := [14]) (by kernel_rfl) (by simp) ?_
        refine ReadyP.cons (o := ⟨none, .store 30 (.tmp 79) (.tmp 76), 0, "tree.go:28", #[⟨13, .data⟩, ⟨9, .data⟩, ⟨9, .chain⟩, ⟨11, .textOnly .appendInPlace⟩, ⟨0, .phase⟩, ⟨1, .phase⟩, ⟨2, .phase⟩, ⟨3, .phase⟩, ⟨4, .phase⟩, ⟨5, .phase⟩, ⟨6, .phase⟩, ⟨7, .phase⟩, ⟨8, .phase⟩, ⟨9, .phase⟩, ⟨10, .textOnly .appendInPlace⟩, ⟨11, .textOnly .appendInPlace⟩], none⟩) rfl (fun K hK => ?_) ReadyP.nil
        refine step_store rfl rfl 30 (.tmp 79) (.tmp 76) rfl _ [.slice (some ⟨g1, 0, none⟩) (q + 1) c1] rfl rfl rfl infoNdS (fun u hu => by rw [List.mem_singleton.1 hu]; rfl) HH2.out HF2.out ?_
        refine hK.out _ _ (fun h => absurd h (by decide)) ?_
        clear hK K
        refine anyP_done (by kernel_rfl) ?_ _
        clear HH1 HH2 HH3 HH4 HF1 HF2 HF3 HF4
        have HZ := HAH
        clear HAH HCH
        generalize w2x.setCells g (m * 8 + 7) [.slice (some ⟨g1, 0, none⟩) (q + 1) c1] = wf at HZ ⊢
        have HN : Hid (BInv w wf l (i + 1) (.slice (some ⟨g, 0, none⟩) (m + 1) cv) (addKid t ⟨0, ⟨k0, tx, ⟨p0, p1, p2⟩, fd⟩, []⟩ :: S')) := zh (by
         refine ⟨?_, H.out.small.add, (fun h => by cases h), ?_, HZ.out.2 _ _ (Nat.le_refl _) (HBI.out.trans (HRW.out.mono (by have h1 := HBI.out.size; simp only [World.size_alloc] at h1; omega)))⟩
         ·rw [← HDR.out]; simp [runB, HNO.out]
         ·have hz := HZ.out.1; rw [List.reverse_cons]; exact hz)
        clear HZ
        go_wp2
        go_roundw
        case rel => exact ⟨i + 1, _, by omega, by go_num, HN⟩
        case measure => simp [intOf]; omega
       ·refine step_store rfl rfl 30 (.tmp 79) (.tmp 76) rfl _ [.slice (some ⟨g1, 0, none⟩) (q + 1) c1] rfl rfl rfl infoNdS (fun u hu => by rw [List.mem_singleton.1 hu]; rfl) HH3.out HF3.out ?_
        refine hK.out _ _ (fun h => absurd h (by decide)) ?_
        clear hK K
        generalize w1.setCells g (m * 8 + 7) [.slice (some ⟨g1, 0, none⟩) (q + 1) c1] = w2x at HH4 HCH ⊢
        refine anyP_ready (rs := [11]) (by kernel_rfl) (by simp) ?_
        refine ReadyP.cons (o := ⟨none, .store 32 (.tmp 77) (.tmp 73), 0, "tree.go:28", #[⟨10, .data⟩, ⟨6, .data⟩, ⟨9, .chain⟩, ⟨0, .phase⟩, ⟨1, .phase⟩, ⟨2, .phase⟩, ⟨3, .phase⟩, ⟨4, .phase⟩, ⟨5, .phase⟩, ⟨6, .phase⟩, ⟨7, .phase⟩, ⟨8, .phase⟩, ⟨9, .phase⟩, ⟨14, .gcOnly .appendInPlace⟩], none⟩) rfl (fun K hK => ?_) ReadyP.nil
        refine step_store rfl rfl 32 (.tmp 77) (.tmp 73) rfl _ (ndCells 0 ⟨k0, tx, ⟨p0, p1, p2⟩, fd⟩ (.slice none 0 0)) rfl rfl rfl infoNd8 (ndCells_one 0 ⟨k0, tx, ⟨p0, p1, p2⟩, fd⟩ rfl) HH4.out HF4.out ?_
        refine hK.out _ _ (fun h => absurd h (by decide)) ?_
        clear hK K
        refine anyP_done (by kernel_rfl) ?_ _
        clear HH1 HH2 HH3 HH4 HF1 HF2 HF3 HF4
        have HZ := HCH
        clear HAH HCH
        generalize w2x.setCells g1 (q * 8) (ndCells 0 ⟨k0, tx, ⟨p0, p1, p2⟩, fd⟩ (.slice none 0 0)) = wf at HZ ⊢
        have HN : Hid (BInv w wf l (i + 1) (.slice (some ⟨g, 0, none⟩) (m + 1) cv) (addKid t ⟨0, ⟨k0, tx, ⟨p0, p1, p2⟩, fd⟩, []⟩ :: S')) := zh (by
         refine ⟨?_, H.out.small.add, (fun h => by cases h), ?_, HZ.out.2 _ _ (Nat.le_refl _) (HBI.out.trans (HRW.out.mono (by have h1 := HBI.out.size; simp only [World.size_alloc] at h1; omega)))⟩
         ·rw [← HDR.out]; simp [runB, HNO.out]
         ·have hz := HZ.out.1; rw [List.reverse_cons]; exact hz)
        clear HZ
        go_wp2
        go_roundw
        case rel => exact ⟨i + 1, _, by omega, by go_num, HN⟩
        case measure => simp [intOf]; omega
    ·have dk2 : (k == 2) = false := beq_eq_false_iff_ne.2 hk2
     by_cases hk4 : k = 4
     ·subst hk4
      by_cases hS : S = []
      ·subst hS
       have hsl0 : sl = 0 := HSL.out.symm
       subst hsl0
       have hbx : ∀ w1, Below (wr.heap.size + 1) (wr.alloc (.cells #[.int .u8 4, .int .u8 nd, .int .u8 k0, .string tx, .int .i64 p0, .int .i64 p1, .int .i64 p2, .int .i64 fd] 48)) w1 → _ := fun w1 h => box8 h
       have hbo := H.out.out
       have hbi := H.out.below
       obtain ⟨W1, hW1⟩ : ∃ W1, wr.alloc (.cells #[.int .u8 4, .int .u8 nd, .int .u8 k0, .string tx, .int .i64 p0, .int .i64 p1, .int .i64 p2, .int .i64 fd] 48) = W1 := ⟨_, rfl⟩
       have hs1 : W1.heap.size = wr.heap.size + 1 := by rw [← hW1, World.size_alloc]
       have hb1 : Below wr.heap.size wr W1 := by rw [← hW1]; exact (Below.refl wr.heap.size wr).alloc (Nat.le_refl _) _
       rw [hW1] at hbx
       have HS1 := zh hs1
       have HBY := zh hbx
       have HW1 := zh hW1
       have HB1 := zh hb1
       have HBI := zh hbi
       have hbox := zh (box_later HBX.out hb1)
       have hout := zh (hbo.trans (hb1.mono hbo.size))
       have HSZ : Hid (w.heap.size + 1 ≤ wr.heap.size) := zh (by have h := hbi.size; simp only [World.size_alloc] at h; exact h)
       clear hs1 hbx hW1 hb1 hbo hbi
       go_upto_region 7 with (fail)
       rw [HW1.out]
       obtain ⟨y0, y1, y2, y3, y4, y5, y6, y7⟩ := HBY.out W1 (Below.refl _ _)
       go_wp2
       go_quiet (fail)
       have HRN : Hid (runB l [] = none) := zh (by rw [← HDR.out]; simp [runB])
       go_wp2_with ((with_reducible refine gate_ (.store 32 (.tmp 2) (.tmp 61)) rfl ?_); refine wl_box rfl rfl _ _ _ rfl (.agg zNd.toArray) zNd rfl rfl rfl infoNd8 zNd_one hbox.out rfl ?_; intro w5 h5 hu; have H5 := zh (hu.below (pw_below_drewN hout.out _) (Nat.le_refl _)); clear hu; obtain ⟨c0, c1, c2, c3, c4, c5, c6, c7⟩ := cells8 h5; clear h5)
       refine bodyPost_ret (v := .tuple #[.agg zNd.toArray, .int .i64 130]) ?_ rfl (BuildPost.err HRN.out H5.out)
       rw [results_cell_tmp rfl]
       go_simp
       try rfl
      ·obtain ⟨t, S', rfl⟩ : ∃ t S', S = t :: S' := List.exists_cons_of_ne_nil hS
       by_cases hno : isNote ⟨k0, tx, ⟨p0, p1, p2⟩, fd⟩ = false
       ·clear hS
        have hsS : S'.length + 1 = sl := HSL.out
        obtain ⟨m, rfl⟩ : ∃ m, sl = m + 1 := ⟨S'.length, hsS.symm⟩
        have dm : ((m : Int) + 1 == 0) = false := beq_eq_false_iff_ne.2 (by omega)
        clear hsS
        have HNO := zh hno
        clear hno
        have hbx : ∀ w1, Below (wr.heap.size + 1) (wr.alloc (.cells #[.int .u8 4, .int .u8 nd, .int .u8 k0, .string tx, .int .i64 p0, .int .i64 p1, .int .i64 p2, .int .i64 fd] 48)) w1 → _ := fun w1 h => box8 h
        have hbo := H.out.out
        have hbi := H.out.below
        obtain ⟨W1, hW1⟩ : ∃ W1, wr.alloc (.cells #[.int .u8 4, .int .u8 nd, .int .u8 k0, .string tx, .int .i64 p0, .int .i64 p1, .int .i64 p2, .int .i64 fd] 48) = W1 := ⟨_, rfl⟩
        have hs1 : W1.heap.size = wr.heap.size + 1 := by rw [← hW1, World.size_alloc]
        have hb1 : Below wr.heap.size wr W1 := by rw [← hW1]; exact (Below.refl wr.heap.size wr).alloc (Nat.le_refl _) _
        rw [hW1] at hbx
        have HS1 := zh hs1
        have HBY := zh hbx
        have HW1 := zh hW1
        have HB1 := zh hb1
        have HBI := zh hbi
        have hbox := zh (box_later HBX.out hb1)
        have hout := zh (hbo.trans (hb1.mono hbo.size))
        have HSZ : Hid (w.heap.size + 1 ≤ wr.heap.size) := zh (by have h := hbi.size; simp only [World.size_alloc] at h; exact h)
        clear hs1 hbx hW1 hb1 hbo hbi
        go_upto_region 7 with (fail)
        rw [HW1.out]
        obtain ⟨y0, y1, y2, y3, y4, y5, y6, y7⟩ := HBY.out W1 (Below.refl _ _)
        have CC := zh (comment_any ⟨k0, tx, ⟨p0, p1, p2⟩, fd⟩)
        clear y0 y1 y2 y3 y4 y5 y6 y7
        go_wp2
        have hb0 : Below (wr.heap.size + 1) W1 W1.drew := (Below.refl _ _).drew
        have HB0 := zh hb0
        clear hb0
        have k1 := HBY.out _ HB0.out
        go_region_held3 (fun w' => w'.cell? ⟨wr.heap.size, 0, none⟩ = some (.int .u8 4) ∧ w'.cell? ⟨wr.heap.size, 2, none⟩ = some (.int .u8 k0) ∧ w'.cell? ⟨wr.heap.size, 3, none⟩ = some (.string tx) ∧ w'.cell? ⟨wr.heap.size, 4, none⟩ = some (.int .i64 p0) ∧ w'.cell? ⟨wr.heap.size, 5, none⟩ = some (.int .i64 p1) ∧ w'.cell? ⟨wr.heap.size, 6, none⟩ = some (.int .i64 p2) ∧ w'.cell? ⟨wr.heap.size, 7, none⟩ = some (.int .i64 fd))
         (first | exact ⟨k1.1, k1.2.2⟩ | exact ⟨k2.1, k2.2.2⟩ | go_keep)
         (first | (go_at_call 32; (with_reducible refine (CC.out _).mono ?_); rintro e w2 ⟨rfl, hb⟩; have hb2 := HB0.out.trans (hb.mono (Nat.le_of_eq HS1.out.symm)); have HB2 := zh hb2; have k2 := HBY.out _ HB2.out; clear hb hb2; rw [HNO.out]))
        have hbox2 : Hid (w2.heap[w.heap.size]? = some (.cells zNd.toArray TN (0, 0))) := zh (box_later HBX.out (HB1.out.trans (HB2.out.mono (Nat.le_succ _))))
        have hout2 : Hid (Below w.heap.size w w2) := zh (H.out.out.trans ((HB1.out.trans (HB2.out.mono (Nat.le_succ _))).mono H.out.out.size))
        have HRN : Hid (runB l [] = none) := zh (by rw [← HDR.out]; simp [runB, HNO.out])
        go_wp2_with ((with_reducible refine gate_ (.store 32 (.tmp 2) (.tmp 61)) rfl ?_); refine wl_box rfl rfl _ _ _ rfl (.agg zNd.toArray) zNd rfl rfl rfl infoNd8 zNd_one hbox2.out rfl ?_; intro w5 h5 hu; have H5 := zh (hu.below hout2.out (Nat.le_refl _)); clear hu; obtain ⟨c0, c1, c2, c3, c4, c5, c6, c7⟩ := cells8 h5; clear h5)
        refine bodyPost_ret (v := .tuple #[.agg zNd.toArray, .int .i64 130]) ?_ rfl (BuildPost.err HRN.out H5.out)
        rw [results_cell_tmp rfl]
        go_simp
        try rfl
       ·clear hS
        replace hno : isNote ⟨k0, tx, ⟨p0, p1, p2⟩, fd⟩ = true := by revert hno; cases isNote ⟨k0, tx, ⟨p0, p1, p2⟩, fd⟩ <;> simp
        have HNO := zh hno
        clear hno
        have hown := H.out.own
        rw [List.reverse_cons] at hown
        obtain ⟨g, cap, u, hgu, htx⟩ := tops_of hown
        rw [List.length_reverse] at hgu
        have hsS : S'.length + 1 = sl := HSL.out
        rw [hsS] at hgu
        injection hgu with hg1 _ hg3
        subst hg1; subst hg3
        obtain ⟨m, rfl⟩ : ∃ m, sl = m + 1 := ⟨S'.length, hsS.symm⟩
        obtain ⟨Au, cu, hu⟩ := top_slice htx
        obtain ⟨q, hq⟩ : ∃ q, t.f2.length = q := ⟨_, rfl⟩
        have hqi : q ≤ i := by rw [← hq]; exact H.out.small.2 t List.mem_cons_self
        rw [hq] at hu
        subst hu
        obtain ⟨cells, G1, G2, kc, Gk, hX⟩ := htx.top
        have HX0 := zh hX
        have HQ := zh hq
        have HM : Hid (S'.reverse.length = m) := zh (by rw [List.length_reverse]; omega)
        have dm : ((m : Int) + 1 == 0) = false := beq_eq_false_iff_ne.2 (by omega)
        clear hown htx hX hq hsS
        have hbx : ∀ w1, Below (wr.heap.size + 1) (wr.alloc (.cells #[.int .u8 4, .int .u8 nd, .int .u8 k0, .string tx, .int .i64 p0, .int .i64 p1, .int .i64 p2, .int .i64 fd] 48)) w1 → _ := fun w1 h => box8 h
        have hbo := H.out.out
        have hbi := H.out.below
        obtain ⟨W1, hW1⟩ : ∃ W1, wr.alloc (.cells #[.int .u8 4, .int .u8 nd, .int .u8 k0, .string tx, .int .i64 p0, .int .i64 p1, .int .i64 p2, .int .i64 fd] 48) = W1 := ⟨_, rfl⟩
        have hs1 : W1.heap.size = wr.heap.size + 1 := by rw [← hW1, World.size_alloc]
        have hb1 : Below wr.heap.size wr W1 := by rw [← hW1]; exact (Below.refl wr.heap.size wr).alloc (Nat.le_refl _) _
        rw [hW1] at hbx
        have HS1 := zh hs1
        have HBY := zh hbx
        have HW1 := zh hW1
        have HB1 := zh hb1
        have HBI := zh hbi
        have hbox := zh (box_later HBX.out hb1)
        have hout := zh (hbo.trans (hb1.mono hbo.size))
        have HSZ : Hid (w.heap.size + 1 ≤ wr.heap.size) := zh (by have h := hbi.size; simp only [World.size_alloc] at h; exact h)
        clear hs1 hbx hW1 hb1 hbo hbi
        go_upto_region 7 with (fail)
        rw [HW1.out]
        obtain ⟨y0, y1, y2, y3, y4, y5, y6, y7⟩ := HBY.out W1 (Below.refl _ _)
        have CC := zh (comment_any ⟨k0, tx, ⟨p0, p1, p2⟩, fd⟩)
        clear y0 y1 y2 y3 y4 y5 y6 y7
        go_wp2
        have hb0 : Below (wr.heap.size + 1) W1 W1.drew := (Below.refl _ _).drew
        have HB0 := zh hb0
        clear hb0
        have k1 := HBY.out _ HB0.out
        go_region_held3 (fun w' => w'.cell? ⟨wr.heap.size, 0, none⟩ = some (.int .u8 4) ∧ w'.cell? ⟨wr.heap.size, 2, none⟩ = some (.int .u8 k0) ∧ w'.cell? ⟨wr.heap.size, 3, none⟩ = some (.string tx) ∧ w'.cell? ⟨wr.heap.size, 4, none⟩ = some (.int .i64 p0) ∧ w'.cell? ⟨wr.heap.size, 5, none⟩ = some (.int .i64 p1) ∧ w'.cell? ⟨wr.heap.size, 6, none⟩ = some (.int .i64 p2) ∧ w'.cell? ⟨wr.heap.size, 7, none⟩ = some (.int .i64 fd))
         (first | exact ⟨k1.1, k1.2.2⟩ | exact ⟨k2.1, k2.2.2⟩ | go_keep)
         (first | (go_at_call 32; (with_reducible refine (CC.out _).mono ?_); rintro e w2 ⟨rfl, hb⟩; have hb2 := HB0.out.trans (hb.mono (Nat.le_of_eq HS1.out.symm)); have HB2 := zh hb2; have k2 := HBY.out _ HB2.out; clear hb hb2; rw [HNO.out]))
        go_wp2
        have HBD : Hid (Below (wr.heap.size + 1) W1 w2.drew) := zh HB2.out.drew
        obtain ⟨W, hWd⟩ : ∃ W, w2.drew = W := ⟨_, rfl⟩
        have HWd := zh hWd
        rw [hWd] at HBD
        have HRW : Hid (Below wr.heap.size wr W) := zh (HB1.out.trans (HBD.out.mono (Nat.le_succ _)))
        have k3 := HBY.out W HBD.out
        clear hWd
        have HX1 : Hid (TopsX W (w.heap.size + 1) g cv S'.reverse t (.slice Au q cu) (fun _ => True) cells G1 G2 kc Gk) := zh (topsX_later HX0.out HRW.out)
        have HX := HX1
        clear HX1
        have HKR : Hid (W.ownsRow (w.heap.size + 1) TN 8 (.slice Au q cu) q kc) := zh (by have := HX.out.krow; rw [HQ.out] at this; exact this)
        have HBA : Hid (w.heap.size + 1 ≤ W.heap.size) := zh (by have h1 := H.out.below.size; have h2 := HRW.out.size; simp only [World.size_alloc] at h1; omega)
        have HQ8 : Hid ((q + 1) * 88 ≤ 140737488355328) := zh (by omega)
        have HKL : Hid (kc.length = q * 8) := zh (by rw [← HQ.out]; exact ownL_len HX.out.kids)
        have HCL : Hid (cells.length = m * 8) := zh (by rw [← HM.out]; exact ownL_len HX.out.rest)
        have HCL7 : Hid ((cells ++ ndPre t.f0 t.f1).length = m * 8 + 7) := zh (by rw [List.length_append, HCL.out]; rfl)
        have k7 : W.cell? ⟨g, m * 8 + 7, none⟩ = some (.slice Au q cu) := by have := (topsX_at HX.out 7 _ rfl).1; rw [HM.out] at this; exact this
        have HSA : Hid (∀ w', Below W.heap.size W w' → w'.cell? ⟨g, m * 8 + 7, none⟩ = some (.slice Au q cu) ∧ w'.cell? ⟨wr.heap.size, 2, none⟩ = some (.int .u8 k0) ∧ w'.cell? ⟨wr.heap.size, 3, none⟩ = some (.string tx) ∧ w'.cell? ⟨wr.heap.size, 4, none⟩ = some (.int .i64 p0) ∧ w'.cell? ⟨wr.heap.size, 5, none⟩ = some (.int .i64 p1) ∧ w'.cell? ⟨wr.heap.size, 6, none⟩ = some (.int .i64 p2) ∧ w'.cell? ⟨wr.heap.size, 7, none⟩ = some (.int .i64 fd)) := zh fun w' hb => ⟨(hb.cell (World.block_lt_of_cell? W _ k7)).trans k7, (HBY.out w' (HBD.out.trans (hb.mono (by have h1 := HBD.out.size; have h2 := HS1.out; omega)))).2.2⟩
        have HXX : Hid (Own W (w.heap.size + 1) ⟨0, ⟨k0, tx, ⟨p0, p1, p2⟩, fd⟩, []⟩ (ndCells 0 ⟨k0, tx, ⟨p0, p1, p2⟩, fd⟩ (.slice none 0 0)) (fun _ => False)) := zh (kid_own _ _ _ _ _)
        refine wp_region_P (fun w' => w'.cell? ⟨g, m * 8 + 7, none⟩ = some (.slice Au q cu) ∧ w'.cell? ⟨wr.heap.size, 2, none⟩ = some (.int .u8 k0) ∧ w'.cell? ⟨wr.heap.size, 3, none⟩ = some (.string tx) ∧ w'.cell? ⟨wr.heap.size, 4, none⟩ = some (.int .i64 p0) ∧ w'.cell? ⟨wr.heap.size, 5, none⟩ = some (.int .i64 p1) ∧ w'.cell? ⟨wr.heap.size, 6, none⟩ = some (.int .i64 p2) ∧ w'.cell? ⟨wr.heap.size, 7, none⟩ = some (.int .i64 fd)) (fun j => Nat.ble j 8) (by kernel_rfl) ?_
        have HS : Hid (W.cell? ⟨g, m * 8 + 7, none⟩ = some (.slice Au q cu) ∧ W.cell? ⟨wr.heap.size, 2, none⟩ = some (.int .u8 k0) ∧ W.cell? ⟨wr.heap.size, 3, none⟩ = some (.string tx) ∧ W.cell? ⟨wr.heap.size, 4, none⟩ = some (.int .i64 p0) ∧ W.cell? ⟨wr.heap.size, 5, none⟩ = some (.int .i64 p1) ∧ W.cell? ⟨wr.heap.size, 6, none⟩ = some (.int .i64 p2) ∧ W.cell? ⟨wr.heap.size, 7, none⟩ = some (.int .i64 fd)) := zh ⟨k7, k3.2.2⟩
        rw [HWd.out]
        refine anyP_take (i := 0) (oi := ⟨some 67, .move (.tmp 7), 84, "tree.go:28", #[], none⟩) (v := ?_) rfl (by kernel_rfl) (fun _ _ _ h => h) (Or.inl ⟨by rfl, ?_⟩) HS.out ?_
        rotate_left
        ·intro x h; go_simp; try (with_reducible rfl)
        try simp only [Act.put,sA,List.set]
        refine anyP_take (i := 1) (oi := ⟨some 68, .nilCheck (.tmp 67), 0, "tree.go:28", #[⟨0, .data⟩], none⟩) (v := ?_) rfl (by kernel_rfl) (fun _ _ _ h => h) (Or.inl ⟨by rfl, ?_⟩) HS.out ?_
        rotate_left
        ·intro x h; go_simp; try (with_reducible rfl)
        try simp only [Act.put,sA,List.set]
        refine anyP_take (i := 2) (oi := ⟨some 69, .fieldAddr 32 (.tmp 68) 2, 0, "tree.go:28", #[⟨1, .data⟩], none⟩) (v := ?_) rfl (by kernel_rfl) (fun _ _ _ h => h) (Or.inl ⟨by rfl, ?_⟩) HS.out ?_
        rotate_left
        ·intro x h; go_simp; try (with_reducible rfl)
        try simp only [Act.put,sA,List.set]
        refine anyP_take (i := 3) (oi := ⟨some 70, .load 30 (.tmp 69), 30, "tree.go:28", #[⟨2, .data⟩], none⟩) (v := ?_) rfl (by kernel_rfl) (fun _ _ _ h => h) (Or.inl ⟨by rfl, ?_⟩) HS.out ?_
        rotate_left
        ·intro x h; go_simp; try (with_reducible rfl)
        try simp only [Act.put,sA,List.set]
        refine anyP_take (i := 4) (oi := ⟨some 71, .fieldAddr 48 (.tmp 6) 2, 0, "tree.go:28", #[], none⟩) (v := ?_) rfl (by kernel_rfl) (fun _ _ _ h => h) (Or.inl ⟨by rfl, ?_⟩) HS.out ?_
        rotate_left
        ·intro x h; go_simp; try (with_reducible rfl)
        try simp only [Act.put,sA,List.set]
        refine anyP_take (i := 5) (oi := ⟨some 72, .load 28 (.tmp 71), 28, "tree.go:28", #[⟨4, .data⟩], none⟩) (v := ?_) rfl (by kernel_rfl) (fun _ _ _ h => h) (Or.inl ⟨by rfl, ?_⟩) HS.out ?_
        rotate_left
        ·intro x h; go_simp; try (with_reducible rfl)
        try simp only [Act.put,sA,List.set]
        refine anyP_take (i := 6) (oi := ⟨some 73, .build 32 #[(1, .tmp 72)], 32, "tree.go:28", #[⟨5, .data⟩], none⟩) (v := ?_) rfl (by kernel_rfl) (fun _ _ _ h => h) (Or.inl ⟨by rfl, ?_⟩) HS.out ?_
        rotate_left
        ·intro x h; go_simp; try (with_reducible rfl)
        try simp only [Act.put,sA,List.set]
        refine anyP_take (i := 7) (oi := ⟨some 74, .call { callee := .builtin .len, args := #[.tmp 70], argTypes := #[30] }, 3, "tree.go:28", #[⟨3, .data⟩], none⟩) (v := ?_) rfl (by kernel_rfl) (fun _ _ _ h => h) (Or.inl ⟨by rfl, ?_⟩) HS.out ?_
        rotate_left
        ·intro x h; go_simp; try (with_reducible rfl)
        try simp only [Act.put,sA,List.set]
        refine anyP_ready (rs := [8]) (by kernel_rfl) (by simp) ?_
        refine ReadyP.cons (o := ⟨some 75, .buildSlice 30 1 #[(0, .const (.agg #[.int .u8 0, .int .u8 0, .string { data := #[] }, .int .i64 0, .int .i64 0, .int .i64 0, .int .i64 0, .slice none 0 0]))], 30, "tree.go:28", #[], none⟩) rfl (fun K hK => ?_) ReadyP.nil
        go_simp
        refine hK.out _ _ (fun _ => ?_) ?_
        ·exact HSA.out _ (Below.refl W.heap.size W |>.alloc (Nat.le_refl _) _)
        clear hK K
        try simp only [Act.put,sA,List.set]
        refine anyP_ready (rs := [9]) (by kernel_rfl) (by simp) ?_
        refine ReadyP.cons (o := ⟨some 76, .call { callee := .builtin .append, args := #[.tmp 70, .tmp 75], argTypes := #[30, 30] }, 30, "tree.go:28", #[⟨3, .data⟩, ⟨8, .data⟩, ⟨0, .phase⟩, ⟨1, .phase⟩, ⟨2, .phase⟩, ⟨3, .phase⟩, ⟨4, .phase⟩, ⟨5, .phase⟩, ⟨6, .phase⟩, ⟨7, .phase⟩, ⟨8, .phase⟩], none⟩) rfl (fun K hK => ?_) ReadyP.nil
        refine step_kid rfl (.tmp 70) (.tmp 75) rfl (w.heap.size + 1) (cs := zNd) rfl rfl HKR.out rfl zNd_one HBA.out HQ8.out ?_
        intro g1 c1 w1 ho hg hat
        refine hK.out _ _ (fun h => absurd h (by decide)) ?_
        clear hK K
        try simp only [Act.put,sA,List.set]
        have hr := row_grown HX.out hg
        have hne := g_ne HX.out hat
        rw [HM.out] at hr
        obtain ⟨cur1, hh1, hf1⟩ := (row_set_end ho (q * 8) (ndCells 0 ⟨k0, tx, ⟨p0, p1, p2⟩, fd⟩ (.slice none 0 0)) HKL.out rfl).2
        have hr' := hr
        rw [ndCells_pre, ← List.append_assoc] at hr'
        obtain ⟨cur2, hh2, hf2⟩ := (row_set_end (far_row hr' hne (q * 8) (ndCells 0 ⟨k0, tx, ⟨p0, p1, p2⟩, fd⟩ (.slice none 0 0))) (m * 8 + 7) [.slice (some ⟨g1, 0, none⟩) (q + 1) c1] HCL7.out rfl).2
        obtain ⟨cur3, hh3, hf3⟩ := (row_set_end hr' (m * 8 + 7) [.slice (some ⟨g1, 0, none⟩) (q + 1) c1] HCL7.out rfl).2
        obtain ⟨cur4, hh4, hf4⟩ := (row_set_end (far_row ho (Ne.symm hne) (m * 8 + 7) [.slice (some ⟨g1, 0, none⟩) (q + 1) c1]) (q * 8) (ndCells 0 ⟨k0, tx, ⟨p0, p1, p2⟩, fd⟩ (.slice none 0 0)) HKL.out rfl).2
        have HA := added HX.out HXX.out (fun _ h => h.elim) (fun _ h => h.elim) (fun h => h) hg hat HM.out HQ.out (two_a (zs := zNd) hr HCL.out ho HKL.out rfl rfl hne)
        have HC := added HX.out HXX.out (fun _ h => h.elim) (fun _ h => h.elim) (fun h => h) hg hat HM.out HQ.out (two_b (zs := zNd) hr HCL.out ho HKL.out rfl rfl hne)
        have HAH := zh HA
        have HCH := zh HC
        have HH1 := zh hh1
        have HF1 := zh hf1
        have HH2 := zh hh2
        have HF2 := zh hf2
        have HH3 := zh hh3
        have HF3 := zh hf3
        have HH4 := zh hh4
        have HF4 := zh hf4
        clear HA HC hh1 hf1 hh2 hf2 hh3 hf3 hh4 hf4 hr hr' ho hg hat hne
        have hqq : (q : Int) < (q : Int) + 1 := by omega
        refine anyP_take0 (i := 10) (oi := ⟨some 77, .indexAddr 30 (.tmp 76) (.tmp 74), 0, "tree.go:28", #[⟨9, .data⟩, ⟨7, .data⟩, ⟨0, .phase⟩, ⟨1, .phase⟩, ⟨2, .phase⟩, ⟨3, .phase⟩, ⟨4, .phase⟩, ⟨5, .phase⟩, ⟨6, .phase⟩, ⟨7, .phase⟩, ⟨8, .phase⟩, ⟨9, .phase⟩, ⟨14, .gcOnly .appendInPlace⟩], none⟩) (v := ?_) rfl (by kernel_rfl) (fun _ _ _ h => h) (Or.inl ⟨by rfl, ?_⟩) ?_
        rotate_left
        ·intro w9; go_simp; try (with_reducible rfl)
        try simp only [Act.put,sA,List.set]
        refine anyP_take0 (i := 12) (oi := ⟨some 78, .nilCheck (.tmp 67), 0, "tree.go:28", #[⟨0, .data⟩, ⟨0, .phase⟩, ⟨1, .phase⟩, ⟨2, .phase⟩, ⟨3, .phase⟩, ⟨4, .phase⟩, ⟨5, .phase⟩, ⟨6, .phase⟩, ⟨7, .phase⟩, ⟨8, .phase⟩, ⟨9, .phase⟩, ⟨10, .textOnly .appendInPlace⟩, ⟨11, .textOnly .appendInPlace⟩], none⟩) (v := ?_) rfl (by kernel_rfl) (fun _ _ _ h => h) (Or.inl ⟨by rfl, ?_⟩) ?_
        rotate_left
        ·intro w9; go_simp; try (with_reducible rfl)
        try simp only [Act.put,sA,List.set]
        refine anyP_take0 (i := 13) (oi := ⟨some 79, .fieldAddr 32 (.tmp 78) 2, 0, "tree.go:28", #[⟨12, .data⟩, ⟨0, .phase⟩, ⟨1, .phase⟩, ⟨2, .phase⟩, ⟨3, .phase⟩, ⟨4, .phase⟩, ⟨5, .phase⟩, ⟨6, .phase⟩, ⟨7, .phase⟩, ⟨8, .phase⟩, ⟨9, .phase⟩, ⟨10, .textOnly .appendInPlace⟩, ⟨11, .textOnly .appendInPlace⟩], none⟩) (v := ?_) rfl (by kernel_rfl) (fun _ _ _ h => h) (Or.inl ⟨by rfl, ?_⟩) ?_
        rotate_left
        ·intro w9; go_simp; try (with_reducible rfl)
        try simp only [Act.put,sA,List.set]
        refine anyP_ready (rs := [11, 14]) (by kernel_rfl) (by simp) ?_
        refine ReadyP.cons (o := ⟨none, .store 32 (.tmp 77) (.tmp 73), 0, "tree.go:28", #[⟨10, .data⟩, ⟨6, .data⟩, ⟨9, .chain⟩, ⟨0, .phase⟩, ⟨1, .phase⟩, ⟨2, .phase⟩, ⟨3, .phase⟩, ⟨4, .phase⟩, ⟨5, .phase⟩, ⟨6, .phase⟩, ⟨7, .phase⟩, ⟨8, .phase⟩, ⟨9, .phase⟩, ⟨14, .gcOnly .appendInPlace⟩], none⟩) rfl (fun K hK => ?_) (ReadyP.cons (o := ⟨none, .store 30 (.tmp 79) (.tmp 76), 0, "tree.go:28", #[⟨13, .data⟩, ⟨9, .data⟩, ⟨9, .chain⟩, ⟨11, .textOnly .appendInPlace⟩, ⟨0, .phase⟩, ⟨1, .phase⟩, ⟨2, .phase⟩, ⟨3, .phase⟩, ⟨4, .phase⟩, ⟨5, .phase⟩, ⟨6, .phase⟩, ⟨7, .phase⟩, ⟨8, .phase⟩, ⟨9, .phase⟩, ⟨10, .textOnly .appendInPlace⟩, ⟨11, .textOnly .appendInPlace⟩], none⟩) rfl (fun K hK => ?_) ReadyP.nil)
        ·refine step_store rfl rfl 32 (.tmp 77) (.tmp 73) rfl _ (ndCells 0 ⟨k0, tx, ⟨p0, p1, p2⟩, fd⟩ (.slice none 0 0)) rfl rfl rfl infoNd8 (ndCells_one 0 ⟨k0, tx, ⟨p0, p1, p2⟩, fd⟩ rfl) HH1.out HF1.out ?_
         refine hK.out _ _ (fun h => absurd h (by decide)) ?_
         clear hK K
         generalize w1.setCells g1 (q * 8) (ndCells 0 ⟨k0, tx, ⟨p0, p1, p2⟩, fd⟩ (.slice none 0 0)) = w2x at HH2 HAH ⊢
         refine anyP_ready (rs := [14]) (by kernel_rfl) (by simp) ?_
         refine ReadyP.cons (o := ⟨none, .store 30 (.tmp 79) (.tmp 76), 0, "tree.go:28", #[⟨13, .data⟩, ⟨9, .data⟩, ⟨9, .chain⟩, ⟨11, .textOnly .appendInPlace⟩, ⟨0, .phase⟩, ⟨1, .phase⟩, ⟨2, .phase⟩, ⟨3, .phase⟩, ⟨4, .phase⟩, ⟨5, .phase⟩, ⟨6, .phase⟩, ⟨7, .phase⟩, ⟨8, .phase⟩, ⟨9, .phase⟩, ⟨10, .textOnly .appendInPlace⟩, ⟨11, .textOnly .appendInPlace⟩], none⟩) rfl (fun K hK => ?_) ReadyP.nil
         refine step_store rfl rfl 30 (.tmp 79) (.tmp 76) rfl _ [.slice (some ⟨g1, 0, none⟩) (q + 1) c1] rfl rfl rfl infoNdS (fun u hu => by rw [List.mem_singleton.1 hu]; rfl) HH2.out HF2.out ?_
         refine hK.out _ _ (fun h => absurd h (by decide)) ?_
         clear hK K
         refine anyP_done (by kernel_rfl) ?_ _
         clear HH1 HH2 HH3 HH4 HF1 HF2 HF3 HF4
         have HZ := HAH
         clear HAH HCH
         generalize w2x.setCells g (m * 8 + 7) [.slice (some ⟨g1, 0, none⟩) (q + 1) c1] = wf at HZ ⊢
         have HN : Hid (BInv w wf l (i + 1) (.slice (some ⟨g, 0, none⟩) (m + 1) cv) (addKid t ⟨0, ⟨k0, tx, ⟨p0, p1, p2⟩, fd⟩, []⟩ :: S')) := zh (by
          refine ⟨?_, H.out.small.add, (fun h => by cases h), ?_, HZ.out.2 _ _ (Nat.le_refl _) (HBI.out.trans (HRW.out.mono (by have h1 := HBI.out.size; simp only [World.size_alloc] at h1; omega)))⟩
          ·rw [← HDR.out]; simp [runB, HNO.out]
          ·have hz := HZ.out.1; rw [List.reverse_cons]; exact hz)
         clear HZ
         go_wp2
         go_roundw
         case rel => exact ⟨i + 1, _, by omega, by go_num, HN⟩
         case measure => simp [intOf]; omega
        ·refine step_store rfl rfl 30 (.tmp 79) (.tmp 76) rfl _ [.slice (some ⟨g1, 0, none⟩) (q + 1) c1] rfl rfl rfl infoNdS (fun u hu => by rw [List.mem_singleton.1 hu]; rfl) HH3.out HF3.out ?_
         refine hK.out _ _ (fun h => absurd h (by decide)) ?_
         clear hK K
         generalize w1.setCells g (m * 8 + 7) [.slice (some ⟨g1, 0, none⟩) (q + 1) c1] = w2x at HH4 HCH ⊢
         refine anyP_ready (rs := [11]) (by kernel_rfl) (by simp) ?_
         refine ReadyP.cons (o := ⟨none, .store 32 (.tmp 77) (.tmp 73), 0, "tree.go:28", #[⟨10, .data⟩, ⟨6, .data⟩, ⟨9, .chain⟩, ⟨0, .phase⟩, ⟨1, .phase⟩, ⟨2, .phase⟩, ⟨3, .phase⟩, ⟨4, .phase⟩, ⟨5, .phase⟩, ⟨6, .phase⟩, ⟨7, .phase⟩, ⟨8, .phase⟩, ⟨9, .phase⟩, ⟨14, .gcOnly .appendInPlace⟩], none⟩) rfl (fun K hK => ?_) ReadyP.nil
         refine step_store rfl rfl 32 (.tmp 77) (.tmp 73) rfl _ (ndCells 0 ⟨k0, tx, ⟨p0, p1, p2⟩, fd⟩ (.slice none 0 0)) rfl rfl rfl infoNd8 (ndCells_one 0 ⟨k0, tx, ⟨p0, p1, p2⟩, fd⟩ rfl) HH4.out HF4.out ?_
         refine hK.out _ _ (fun h => absurd h (by decide)) ?_
         clear hK K
         refine anyP_done (by kernel_rfl) ?_ _
         clear HH1 HH2 HH3 HH4 HF1 HF2 HF3 HF4
         have HZ := HCH
         clear HAH HCH
         generalize w2x.setCells g1 (q * 8) (ndCells 0 ⟨k0, tx, ⟨p0, p1, p2⟩, fd⟩ (.slice none 0 0)) = wf at HZ ⊢
         have HN : Hid (BInv w wf l (i + 1) (.slice (some ⟨g, 0, none⟩) (m + 1) cv) (addKid t ⟨0, ⟨k0, tx, ⟨p0, p1, p2⟩, fd⟩, []⟩ :: S')) := zh (by
          refine ⟨?_, H.out.small.add, (fun h => by cases h), ?_, HZ.out.2 _ _ (Nat.le_refl _) (HBI.out.trans (HRW.out.mono (by have h1 := HBI.out.size; simp only [World.size_alloc] at h1; omega)))⟩
          ·rw [← HDR.out]; simp [runB, HNO.out]
          ·have hz := HZ.out.1; rw [List.reverse_cons]; exact hz)
         clear HZ
         go_wp2
         go_roundw
         case rel => exact ⟨i + 1, _, by omega, by go_num, HN⟩
         case measure => simp [intOf]; omega
     ·have dk4 : (k == 4) = false := beq_eq_false_iff_ne.2 hk4
      by_cases hk3 : k = 3
      ·subst hk3
       by_cases hS : S = []
       ·subst hS
        have hsl0 : sl = 0 := HSL.out.symm
        subst hsl0
        have hbx : ∀ w1, Below (wr.heap.size + 1) (wr.alloc (.cells #[.int .u8 3, .int .u8 nd, .int .u8 k0, .string tx, .int .i64 p0, .int .i64 p1, .int .i64 p2, .int .i64 fd] 48)) w1 → _ := fun w1 h => box8 h
        have hbo := H.out.out
        have hbi := H.out.below
        obtain ⟨W1, hW1⟩ : ∃ W1, wr.alloc (.cells #[.int .u8 3, .int .u8 nd, .int .u8 k0, .string tx, .int .i64 p0, .int .i64 p1, .int .i64 p2, .int .i64 fd] 48) = W1 := ⟨_, rfl⟩
        have hs1 : W1.heap.size = wr.heap.size + 1 := by rw [← hW1, World.size_alloc]
        have hb1 : Below wr.heap.size wr W1 := by rw [← hW1]; exact (Below.refl wr.heap.size wr).alloc (Nat.le_refl _) _
        rw [hW1] at hbx
        have HS1 := zh hs1
        have HBY := zh hbx
        have HW1 := zh hW1
        have HB1 := zh hb1
        have HBI := zh hbi
        have hbox := zh (box_later HBX.out hb1)
        have hout := zh (hbo.trans (hb1.mono hbo.size))
        have HSZ : Hid (w.heap.size + 1 ≤ wr.heap.size) := zh (by have h := hbi.size; simp only [World.size_alloc] at h; exact h)
        clear hs1 hbx hW1 hb1 hbo hbi
        go_upto_region 7 with (fail)
        rw [HW1.out]
        obtain ⟨y0, y1, y2, y3, y4, y5, y6, y7⟩ := HBY.out W1 (Below.refl _ _)
        go_wp2
        go_quiet (fail)
        have HRN : Hid (runB l [] = none) := zh (by rw [← HDR.out]; simp [runB])
        go_wp2_with ((with_reducible refine gate_ (.store 32 (.tmp 2) (.tmp 97)) rfl ?_); refine wl_box rfl rfl _ _ _ rfl (.agg zNd.toArray) zNd rfl rfl rfl infoNd8 zNd_one hbox.out rfl ?_; intro w5 h5 hu; have H5 := zh (hu.below (pw_below_drewN hout.out _) (Nat.le_refl _)); clear hu; obtain ⟨c0, c1, c2, c3, c4, c5, c6, c7⟩ := cells8 h5; clear h5)
        refine bodyPost_ret (v := .tuple #[.agg zNd.toArray, .int .i64 130]) ?_ rfl (BuildPost.err HRN.out H5.out)
        rw [results_cell_tmp rfl]
        go_simp
        try rfl
       ·obtain ⟨t, S', rfl⟩ : ∃ t S', S = t :: S' := List.exists_cons_of_ne_nil hS
        by_cases hkd : t.f0 = nd
        ·have dne : (t.f0 != nd) = false := bne_eq_false_iff_eq.2 hkd
         have HKD := zh hkd
         clear hS
         have hown := H.out.own
         rw [List.reverse_cons] at hown
         obtain ⟨g, cap, u, hgu, htx⟩ := tops_of hown
         rw [List.length_reverse] at hgu
         have hsS : S'.length + 1 = sl := HSL.out
         rw [hsS] at hgu
         injection hgu with hg1 _ hg3
         subst hg1; subst hg3
         obtain ⟨m, rfl⟩ : ∃ m, sl = m + 1 := ⟨S'.length, hsS.symm⟩
         obtain ⟨Au, cu, hu⟩ := top_slice htx
         subst hu
         obtain ⟨cells, G1, G2, kc, Gk, hX⟩ := htx.top
         have hcap := topsX_cap hX
         rw [List.length_reverse] at hcap
         have HX0 := zh hX
         have HM0 : Hid (S'.reverse.length = m) := zh (by rw [List.length_reverse]; omega)
         have hcap1 : m + 1 ≤ cv := by omega
         have hcap2 : (m : Int) ≤ (cv : Int) := by omega
         have dm : ((m : Int) + 1 == 0) = false := beq_eq_false_iff_ne.2 (by omega)
         have bm1 : (0 : Int) ≤ (m : Int) := by omega
         have bm2 : (m : Int) < (m : Int) + 1 := by omega
         have hq : t.f2.length ≤ i := H.out.small.2 t List.mem_cons_self
         have HQI := zh hq
         clear hown htx hX hsS hcap hq
         have hbx : ∀ w1, Below (wr.heap.size + 1) (wr.alloc (.cells #[.int .u8 3, .int .u8 nd, .int .u8 k0, .string tx, .int .i64 p0, .int .i64 p1, .int .i64 p2, .int .i64 fd] 48)) w1 → _ := fun w1 h => box8 h
         have hbo := H.out.out
         have hbi := H.out.below
         obtain ⟨W1, hW1⟩ : ∃ W1, wr.alloc (.cells #[.int .u8 3, .int .u8 nd, .int .u8 k0, .string tx, .int .i64 p0, .int .i64 p1, .int .i64 p2, .int .i64 fd] 48) = W1 := ⟨_, rfl⟩
         have hs1 : W1.heap.size = wr.heap.size + 1 := by rw [← hW1, World.size_alloc]
         have hb1 : Below wr.heap.size wr W1 := by rw [← hW1]; exact (Below.refl wr.heap.size wr).alloc (Nat.le_refl _) _
         rw [hW1] at hbx
         have HS1 := zh hs1
         have HBY := zh hbx
         have HW1 := zh hW1
         have HB1 := zh hb1
         have HBI := zh hbi
         have hbox := zh (box_later HBX.out hb1)
         have hout := zh (hbo.trans (hb1.mono hbo.size))
         have HSZ : Hid (w.heap.size + 1 ≤ wr.heap.size) := zh (by have h := hbi.size; simp only [World.size_alloc] at h; exact h)
         clear hs1 hbx hW1 hb1 hbo hbi
         go_upto_region 7 with (fail)
         rw [HW1.out]
         obtain ⟨y0, y1, y2, y3, y4, y5, y6, y7⟩ := HBY.out W1 (Below.refl _ _)
         have HXW : Hid (TopsX W1 (w.heap.size + 1) g cv S'.reverse t (.slice Au t.f2.length cu) (fun _ => True) cells G1 G2 kc Gk) := zh (topsX_later HX0.out HB1.out)
         have z0 : W1.cell? ⟨g, m * 8, none⟩ = some (.int .u8 t.f0) := by have h := (topsX_at HXW.out 0 _ rfl).1; rw [HM0.out] at h; exact h
         have z1 : W1.cell? ⟨g, m * 8 + 1, none⟩ = some (.int .u8 t.f1.f0) := by have h := (topsX_at HXW.out 1 _ rfl).1; rw [HM0.out] at h; exact h
         have z2 : W1.cell? ⟨g, m * 8 + 2, none⟩ = some (.string t.f1.f1) := by have h := (topsX_at HXW.out 2 _ rfl).1; rw [HM0.out] at h; exact h
         have z3 : W1.cell? ⟨g, m * 8 + 3, none⟩ = some (.int .i64 t.f1.f2.f0) := by have h := (topsX_at HXW.out 3 _ rfl).1; rw [HM0.out] at h; exact h
         have z4 : W1.cell? ⟨g, m * 8 + 4, none⟩ = some (.int .i64 t.f1.f2.f1) := by have h := (topsX_at HXW.out 4 _ rfl).1; rw [HM0.out] at h; exact h
         have z5 : W1.cell? ⟨g, m * 8 + 5, none⟩ = some (.int .i64 t.f1.f2.f2) := by have h := (topsX_at HXW.out 5 _ rfl).1; rw [HM0.out] at h; exact h
         have z6 : W1.cell? ⟨g, m * 8 + 6, none⟩ = some (.int .i64 t.f1.f3) := by have h := (topsX_at HXW.out 6 _ rfl).1; rw [HM0.out] at h; exact h
         have z7 : W1.cell? ⟨g, m * 8 + 7, none⟩ = some (.slice Au t.f2.length cu) := by have h := (topsX_at HXW.out 7 _ rfl).1; rw [HM0.out] at h; exact h
         clear hkd
         go_wp2
         go_quiet (fail)
         rename_i nq
         obtain ⟨W2, hW2⟩ : ∃ W2, W1.drewN nq = W2 := ⟨_, rfl⟩
         have hb2 : Below W1.heap.size W1 W2 := by rw [← hW2]; exact pw_below_drewN (Below.refl _ _) nq
         have HB2 := zh hb2
         have hs2 : W2.heap.size = W1.heap.size := by rw [← hW2]; rfl
         have HS2 := zh hs2
         rw [hW2]
         have hbox2 := zh ((hb2.block _ (blk_lt hbox.out)).trans hbox.out)
         have hout2 := zh (hout.out.trans (hb2.mono hout.out.size))
         clear hb2 hs2 hW2
         clear z0 z1 z2 z3 z4 z5 z6 z7
         have HXV : Hid (TopsX W2 (w.heap.size + 1) g cv S'.reverse t (.slice Au t.f2.length cu) (fun _ => True) cells G1 G2 kc Gk) := zh (topsX_later HXW.out HB2.out)
         have z0 : W2.cell? ⟨g, m * 8, none⟩ = some (.int .u8 t.f0) := by have h := (topsX_at HXV.out 0 _ rfl).1; rw [HM0.out] at h; exact h
         have z1 : W2.cell? ⟨g, m * 8 + 1, none⟩ = some (.int .u8 t.f1.f0) := by have h := (topsX_at HXV.out 1 _ rfl).1; rw [HM0.out] at h; exact h
         have z2 : W2.cell? ⟨g, m * 8 + 2, none⟩ = some (.string t.f1.f1) := by have h := (topsX_at HXV.out 2 _ rfl).1; rw [HM0.out] at h; exact h
         have z3 : W2.cell? ⟨g, m * 8 + 3, none⟩ = some (.int .i64 t.f1.f2.f0) := by have h := (topsX_at HXV.out 3 _ rfl).1; rw [HM0.out] at h; exact h
         have z4 : W2.cell? ⟨g, m * 8 + 4, none⟩ = some (.int .i64 t.f1.f2.f1) := by have h := (topsX_at HXV.out 4 _ rfl).1; rw [HM0.out] at h; exact h
         have z5 : W2.cell? ⟨g, m * 8 + 5, none⟩ = some (.int .i64 t.f1.f2.f2) := by have h := (topsX_at HXV.out 5 _ rfl).1; rw [HM0.out] at h; exact h
         have z6 : W2.cell? ⟨g, m * 8 + 6, none⟩ = some (.int .i64 t.f1.f3) := by have h := (topsX_at HXV.out 6 _ rfl).1; rw [HM0.out] at h; exact h
         have z7 : W2.cell? ⟨g, m * 8 + 7, none⟩ = some (.slice Au t.f2.length cu) := by have h := (topsX_at HXV.out 7 _ rfl).1; rw [HM0.out] at h; exact h
         have hby : ∀ w1, Below (W2.heap.size + 1) (W2.alloc (.cells #[.int .u8 t.f0, .int .u8 t.f1.f0, .string t.f1.f1, .int .i64 t.f1.f2.f0, .int .i64 t.f1.f2.f1, .int .i64 t.f1.f2.f2, .int .i64 t.f1.f3, .slice Au t.f2.length cu] TN)) w1 → _ := fun w1 h => box8 h
         obtain ⟨W3, hW3⟩ : ∃ W3, W2.alloc (.cells #[.int .u8 t.f0, .int .u8 t.f1.f0, .string t.f1.f1, .int .i64 t.f1.f2.f0, .int .i64 t.f1.f2.f1, .int .i64 t.f1.f2.f2, .int .i64 t.f1.f3, .slice Au t.f2.length cu] TN) = W3 := ⟨_, rfl⟩
         have hs3 : W3.heap.size = W2.heap.size + 1 := by rw [← hW3, World.size_alloc]
         have hb3 : Below W2.heap.size W2 W3 := by rw [← hW3]; exact (Below.refl W2.heap.size W2).alloc (Nat.le_refl _) _
         rw [hW3] at hby
         have HBZ := zh hby
         have HW3 := zh hW3
         have HB3 := zh hb3
         have HS3 := zh hs3
         have hbox3 := zh ((hb3.block _ (blk_lt hbox2.out)).trans hbox2.out)
         have hout3 := zh (hout2.out.trans (hb3.mono hout2.out.size))
         have HXY : Hid (TopsX W3 (w.heap.size + 1) g cv S'.reverse t (.slice Au t.f2.length cu) (fun _ => True) cells G1 G2 kc Gk) := zh (topsX_later HXV.out hb3)
         clear hby hW3 hb3 hs3
         go_upto_region 21 with (fail)
         rw [HW3.out]
         clear z0 z1 z2 z3 z4 z5 z6 z7
         obtain ⟨x0, x1, x2, x3, x4, x5, x6, x7⟩ := HBZ.out W3 (Below.refl _ _)
         by_cases hS1 : S' = []
         ·subst hS1
          have hm0 : m = 0 := HM0.out.symm
          subst hm0
          by_cases hlast : i + 1 < n
          ·have dl : decide ((i : Int) + 1 < (n : Int)) = true := decide_eq_true (by omega)
           have dl2 : decide (i + 1 < n) = true := decide_eq_true hlast
           have HRN : Hid (runB l [] = none) := zh (by rw [← HDR.out]; simp [runB, HKD.out]; have := HL.out; omega)
           go_wp2_with ((with_reducible refine gate_ (.store 32 (.tmp 2) (.tmp 117)) rfl ?_); refine wl_box rfl rfl _ _ _ rfl (.agg zNd.toArray) zNd rfl rfl rfl infoNd8 zNd_one hbox3.out rfl ?_; intro w5 h5 hu; have H5 := zh (hu.below hout3.out (Nat.le_refl _)); clear hu; obtain ⟨c0, c1, c2, c3, c4, c5, c6, c7⟩ := cells8 h5; clear h5)
           refine bodyPost_ret (v := .tuple #[.agg zNd.toArray, .int .i64 130]) ?_ rfl (BuildPost.err HRN.out H5.out)
           rw [results_cell_tmp rfl]
           go_simp
           try rfl
          ·have dl : decide ((i : Int) + 1 < (n : Int)) = false := decide_eq_false (by omega)
           have dl2 : decide (i + 1 < n) = false := decide_eq_false hlast
           have HRN : Hid (runB l [] = some t) := zh (by rw [← HDR.out]; have h2 : l.drop (i + 1) = [] := List.drop_of_length_le (by have := HL.out; omega); simp [runB, HKD.out, h2])
           go_wp2_with ((with_reducible refine gate_ (.store 32 (.tmp 2) (.tmp 118)) rfl ?_); refine wl_box rfl rfl _ _ _ rfl (.agg #[.int .u8 t.f0, .int .u8 t.f1.f0, .string t.f1.f1, .int .i64 t.f1.f2.f0, .int .i64 t.f1.f2.f1, .int .i64 t.f1.f2.f2, .int .i64 t.f1.f3, .slice Au t.f2.length cu]) (ndCells t.f0 t.f1 (.slice Au t.f2.length cu)) rfl rfl rfl infoNd8 (ndCells_one _ _ rfl) hbox3.out rfl ?_; intro w5 h5 hu; have H5 := zh (hu.below hout3.out (Nat.le_refl _)); have HO5 := zh (ownS_mono (ownS_upd (top_ownS HXY.out) hu (Nat.lt_succ_self _)) (fun _ _ => trivial)); clear hu; obtain ⟨c0, c1, c2, c3, c4, c5, c6, c7⟩ := cells8 h5; clear h5)
           refine bodyPost_ret (v := .tuple #[.agg #[.int .u8 t.f0, .int .u8 t.f1.f0, .string t.f1.f1, .int .i64 t.f1.f2.f0, .int .i64 t.f1.f2.f1, .int .i64 t.f1.f2.f2, .int .i64 t.f1.f3, .slice Au t.f2.length cu], .int .i64 0]) ?_ rfl (BuildPost.ok HRN.out HO5.out H5.out)
           rw [results_cell_tmp rfl]
           go_simp
           try rfl
         ·obtain ⟨u2, S2, rfl⟩ : ∃ u2 S2, S' = u2 :: S2 := List.exists_cons_of_ne_nil hS1
          clear hS1
          obtain ⟨p, rfl⟩ : ∃ p, m = p + 1 := ⟨S2.length, by have := HM0.out; rw [List.length_reverse] at this; simp only [List.length_cons] at this; omega⟩
          have HPM : Hid (S2.reverse.length = p) := zh (by have := HM0.out; rw [List.length_reverse] at this ⊢; simp only [List.length_cons] at this; omega)
          obtain ⟨uu, cells', G1', G2', kc', Gk', hX'⟩ := popped HXY.out (List.reverse_cons : (u2 :: S2).reverse = S2.reverse ++ [u2])
          obtain ⟨A2, c2, he2⟩ := own_slice hX'.krow
          subst he2
          obtain ⟨q2, hq2⟩ : ∃ q2, u2.f2.length = q2 := ⟨_, rfl⟩
          have hqi : q2 ≤ i := by rw [← hq2]; exact H.out.small.2 u2 (List.mem_cons_of_mem _ List.mem_cons_self)
          have HQ := zh hq2
          rw [hq2] at hX'
          have HXU := zh hX'
          have dp : ((p : Int) + 1 == 0) = false := beq_eq_false_iff_ne.2 (by omega)
          have hp9 : p ≤ 998 := by have := HSL.out; have h2 := H.out.small.1; simp only [List.length_cons] at *; have h3 := HPM.out; rw [List.length_reverse] at h3; omega
          clear hX' hq2 dm bm1 bm2
          go_wp2
          have hbd : Below (W2.heap.size + 1) W3 W3.drew := (Below.refl _ _).drew
          have HBD := zh hbd
          obtain ⟨W, hWd⟩ : ∃ W, W3.drew = W := ⟨_, rfl⟩
          have HWd := zh hWd
          have HBW : Hid (Below (W2.heap.size + 1) W3 W) := zh (by rw [← hWd]; exact hbd)
          have HS4 : Hid (W.heap.size = W3.heap.size) := zh (by rw [← hWd]; rfl)
          have k3 := HBZ.out W HBW.out
          have hb4 : Below W3.heap.size W3 W := by rw [← hWd]; exact (Below.refl _ _).drew
          have HX : Hid (TopsX W (w.heap.size + 1) g cv S2.reverse u2 (.slice A2 q2 c2) (fun b => b = g ∨ G1 b) cells' G1' G2' kc' Gk') := zh (topsX_later HXU.out hb4)
          have HXX : Hid (Own W (w.heap.size + 1) t (ndCells t.f0 t.f1 (.slice Au t.f2.length cu)) G2) := zh (own_below (top_own HXY.out) hb4)
          have HBW4 := zh (hout3.out.trans (hb4.mono hout3.out.size))
          clear hbd hWd hb4
          have HKR : Hid (W.ownsRow (w.heap.size + 1) TN 8 (.slice A2 q2 c2) q2 kc') := zh (by have h := HX.out.krow; rw [HQ.out] at h; exact h)
          have HBA : Hid (w.heap.size + 1 ≤ W.heap.size) := zh (by have h1 := HSZ.out; have h2 := HS1.out; have h3 := HS2.out; have h4 := HS3.out; have h5 := HS4.out; omega)
          have HBI4 : Hid (Below (w.heap.size + 1) (zBox w) W) := zh (HBI.out.trans ((HB1.out.trans ((HB2.out.trans ((HB3.out.trans (HBW.out.mono (Nat.le_succ _))).mono (Nat.le_of_eq HS2.out.symm))).mono (by have := HS1.out; omega))).mono HSZ.out))
          have HQ8 : Hid ((q2 + 1) * 88 ≤ 140737488355328) := zh (by omega)
          have HKL : Hid (kc'.length = q2 * 8) := zh (by rw [← HQ.out]; exact ownL_len HX.out.kids)
          have HCL : Hid (cells'.length = p * 8) := zh (by rw [← HPM.out]; exact ownL_len HX.out.rest)
          have HCL7 : Hid ((cells' ++ ndPre u2.f0 u2.f1).length = p * 8 + 7) := zh (by rw [List.length_append, HCL.out]; rfl)
          have HM := HPM
          have k7 : W.cell? ⟨g, p * 8 + 7, none⟩ = some (.slice A2 q2 c2) := by have h := (topsX_at HX.out 7 _ rfl).1; rw [HM.out] at h; exact h
          have HSA : Hid (∀ w', Below W.heap.size W w' → w'.cell? ⟨g, p * 8 + 7, none⟩ = some (.slice A2 q2 c2) ∧ w'.cell? ⟨W2.heap.size, 0, none⟩ = some (.int .u8 t.f0) ∧ w'.cell? ⟨W2.heap.size, 1, none⟩ = some (.int .u8 t.f1.f0) ∧ w'.cell? ⟨W2.heap.size, 2, none⟩ = some (.string t.f1.f1) ∧ w'.cell? ⟨W2.heap.size, 3, none⟩ = some (.int .i64 t.f1.f2.f0) ∧ w'.cell? ⟨W2.heap.size, 4, none⟩ = some (.int .i64 t.f1.f2.f1) ∧ w'.cell? ⟨W2.heap.size, 5, none⟩ = some (.int .i64 t.f1.f2.f2) ∧ w'.cell? ⟨W2.heap.size, 6, none⟩ = some (.int .i64 t.f1.f3) ∧ w'.cell? ⟨W2.heap.size, 7, none⟩ = some (.slice Au t.f2.length cu)) := zh fun w' hb => ⟨(hb.cell (World.block_lt_of_cell? W _ k7)).trans k7, HBZ.out w' (HBW.out.trans (hb.mono (by have h4 := HS3.out; have h5 := HS4.out; omega)))⟩
          refine wp_region_P (fun w' => w'.cell? ⟨g, p * 8 + 7, none⟩ = some (.slice A2 q2 c2) ∧ w'.cell? ⟨W2.heap.size, 0, none⟩ = some (.int .u8 t.f0) ∧ w'.cell? ⟨W2.heap.size, 1, none⟩ = some (.int .u8 t.f1.f0) ∧ w'.cell? ⟨W2.heap.size, 2, none⟩ = some (.string t.f1.f1) ∧ w'.cell? ⟨W2.heap.size, 3, none⟩ = some (.int .i64 t.f1.f2.f0) ∧ w'.cell? ⟨W2.heap.size, 4, none⟩ = some (.int .i64 t.f1.f2.f1) ∧ w'.cell? ⟨W2.heap.size, 5, none⟩ = some (.int .i64 t.f1.f2.f2) ∧ w'.cell? ⟨W2.heap.size, 6, none⟩ = some (.int .i64 t.f1.f3) ∧ w'.cell? ⟨W2.heap.size, 7, none⟩ = some (.slice Au t.f2.length cu)) (fun j => Nat.ble j 6) (by kernel_rfl) ?_
          have HS : Hid (W.cell? ⟨g, p * 8 + 7, none⟩ = some (.slice A2 q2 c2) ∧ W.cell? ⟨W2.heap.size, 0, none⟩ = some (.int .u8 t.f0) ∧ W.cell? ⟨W2.heap.size, 1, none⟩ = some (.int .u8 t.f1.f0) ∧ W.cell? ⟨W2.heap.size, 2, none⟩ = some (.string t.f1.f1) ∧ W.cell? ⟨W2.heap.size, 3, none⟩ = some (.int .i64 t.f1.f2.f0) ∧ W.cell? ⟨W2.heap.size, 4, none⟩ = some (.int .i64 t.f1.f2.f1) ∧ W.cell? ⟨W2.heap.size, 5, none⟩ = some (.int .i64 t.f1.f2.f2) ∧ W.cell? ⟨W2.heap.size, 6, none⟩ = some (.int .i64 t.f1.f3) ∧ W.cell? ⟨W2.heap.size, 7, none⟩ = some (.slice Au t.f2.length cu)) := zh ⟨k7, k3⟩
          rw [HWd.out]
          refine anyP_take (i := 0) (oi := ⟨some 124, .move (.tmp 9), 84, "tree.go:42", #[], none⟩) (v := ?_) rfl (by kernel_rfl) (fun _ _ _ h => h) (Or.inl ⟨by rfl, ?_⟩) HS.out ?_
          rotate_left
          ·intro x h; go_simp; try (with_reducible rfl)
          try simp only [Act.put,sA,List.set]
          refine anyP_take (i := 1) (oi := ⟨some 125, .nilCheck (.tmp 124), 0, "tree.go:42", #[⟨0, .data⟩], none⟩) (v := ?_) rfl (by kernel_rfl) (fun _ _ _ h => h) (Or.inl ⟨by rfl, ?_⟩) HS.out ?_
          rotate_left
          ·intro x h; go_simp; try (with_reducible rfl)
          try simp only [Act.put,sA,List.set]
          refine anyP_take (i := 2) (oi := ⟨some 126, .fieldAddr 32 (.tmp 125) 2, 0, "tree.go:42", #[⟨1, .data⟩], none⟩) (v := ?_) rfl (by kernel_rfl) (fun _ _ _ h => h) (Or.inl ⟨by rfl, ?_⟩) HS.out ?_
          rotate_left
          ·intro x h; go_simp; try (with_reducible rfl)
          try simp only [Act.put,sA,List.set]
          refine anyP_take (i := 3) (oi := ⟨some 127, .load 30 (.tmp 126), 30, "tree.go:42", #[⟨2, .data⟩], none⟩) (v := ?_) rfl (by kernel_rfl) (fun _ _ _ h => h) (Or.inl ⟨by rfl, ?_⟩) HS.out ?_
          rotate_left
          ·intro x h; go_simp; try (with_reducible rfl)
          try simp only [Act.put,sA,List.set]
          refine anyP_take (i := 4) (oi := ⟨some 128, .load 32 (.tmp 8), 32, "tree.go:42", #[], none⟩) (v := ?_) rfl (by kernel_rfl) (fun _ _ _ h => h) (Or.inl ⟨by rfl, ?_⟩) HS.out ?_
          rotate_left
          ·intro x h; go_simp; try (with_reducible rfl)
          try simp only [Act.put,sA,List.set]
          refine anyP_take (i := 5) (oi := ⟨some 129, .call { callee := .builtin .len, args := #[.tmp 127], argTypes := #[30] }, 3, "tree.go:42", #[⟨3, .data⟩], none⟩) (v := ?_) rfl (by kernel_rfl) (fun _ _ _ h => h) (Or.inl ⟨by rfl, ?_⟩) HS.out ?_
          rotate_left
          ·intro x h; go_simp; try (with_reducible rfl)
          try simp only [Act.put,sA,List.set]
          refine anyP_ready (rs := [6]) (by kernel_rfl) (by simp) ?_
          refine ReadyP.cons (o := ⟨some 130, .buildSlice 30 1 #[(0, .const (.agg #[.int .u8 0, .int .u8 0, .string { data := #[] }, .int .i64 0, .int .i64 0, .int .i64 0, .int .i64 0, .slice none 0 0]))], 30, "tree.go:42", #[], none⟩) rfl (fun K hK => ?_) ReadyP.nil
          go_simp
          refine hK.out _ _ (fun _ => ?_) ?_
          ·exact HSA.out _ (Below.refl W.heap.size W |>.alloc (Nat.le_refl _) _)
          clear hK K
          try simp only [Act.put,sA,List.set]
          refine anyP_ready (rs := [7]) (by kernel_rfl) (by simp) ?_
          refine ReadyP.cons (o := ⟨some 131, .call { callee := .builtin .append, args := #[.tmp 127, .tmp 130], argTypes := #[30, 30] }, 30, "tree.go:42", #[⟨3, .data⟩, ⟨6, .data⟩, ⟨0, .phase⟩, ⟨1, .phase⟩, ⟨2, .phase⟩, ⟨3, .phase⟩, ⟨4, .phase⟩, ⟨5, .phase⟩, ⟨6, .phase⟩], none⟩) rfl (fun K hK => ?_) ReadyP.nil
          refine step_kid rfl (.tmp 127) (.tmp 130) rfl (w.heap.size + 1) (cs := zNd) rfl rfl HKR.out rfl zNd_one HBA.out HQ8.out ?_
          intro g1 c1 w1 ho hg hat
          refine hK.out _ _ (fun h => absurd h (by decide)) ?_
          clear hK K
          try simp only [Act.put,sA,List.set]
          have hr := row_grown HX.out hg
          have hne := g_ne HX.out hat
          rw [HM.out] at hr
          obtain ⟨cur1, hh1, hf1⟩ := (row_set_end ho (q2 * 8) (ndCells t.f0 t.f1 (.slice Au t.f2.length cu)) HKL.out rfl).2
          have hr' := hr
          rw [ndCells_pre, ← List.append_assoc] at hr'
          obtain ⟨cur2, hh2, hf2⟩ := (row_set_end (far_row hr' hne (q2 * 8) (ndCells t.f0 t.f1 (.slice Au t.f2.length cu))) (p * 8 + 7) [.slice (some ⟨g1, 0, none⟩) (q2 + 1) c1] HCL7.out rfl).2
          obtain ⟨cur3, hh3, hf3⟩ := (row_set_end hr' (p * 8 + 7) [.slice (some ⟨g1, 0, none⟩) (q2 + 1) c1] HCL7.out rfl).2
          obtain ⟨cur4, hh4, hf4⟩ := (row_set_end (far_row ho (Ne.symm hne) (p * 8 + 7) [.slice (some ⟨g1, 0, none⟩) (q2 + 1) c1]) (q2 * 8) (ndCells t.f0 t.f1 (.slice Au t.f2.length cu)) HKL.out rfl).2
          have HA := added HX.out HXX.out (fun b hb hc => (HX.out.f1 b hc).elim (fun h => HXY.out.n2 (h ▸ hb)) (fun h => HXY.out.apart b h hb)) (fun b hb hc => (HX.out.f2 b hc).elim (fun h => HXY.out.n2 (h ▸ hb)) (fun h => HXY.out.apart b h hb)) HXY.out.n2 hg hat HM.out HQ.out (two_a (zs := zNd) hr HCL.out ho HKL.out rfl rfl hne)
          have HC := added HX.out HXX.out (fun b hb hc => (HX.out.f1 b hc).elim (fun h => HXY.out.n2 (h ▸ hb)) (fun h => HXY.out.apart b h hb)) (fun b hb hc => (HX.out.f2 b hc).elim (fun h => HXY.out.n2 (h ▸ hb)) (fun h => HXY.out.apart b h hb)) HXY.out.n2 hg hat HM.out HQ.out (two_b (zs := zNd) hr HCL.out ho HKL.out rfl rfl hne)
          have HAH := zh HA
          have HCH := zh HC
          have HH1 := zh hh1
          have HF1 := zh hf1
          have HH2 := zh hh2
          have HF2 := zh hf2
          have HH3 := zh hh3
          have HF3 := zh hf3
          have HH4 := zh hh4
          have HF4 := zh hf4
          clear HA HC hh1 hf1 hh2 hf2 hh3 hf3 hh4 hf4 hr hr' ho hg hat hne
          have hqq : (q2 : Int) < (q2 : Int) + 1 := by omega
          refine anyP_take0 (i := 8) (oi := ⟨some 132, .indexAddr 30 (.tmp 131) (.tmp 129), 0, "tree.go:42", #[⟨7, .data⟩, ⟨5, .data⟩, ⟨0, .phase⟩, ⟨1, .phase⟩, ⟨2, .phase⟩, ⟨3, .phase⟩, ⟨4, .phase⟩, ⟨5, .phase⟩, ⟨6, .phase⟩, ⟨7, .phase⟩, ⟨12, .gcOnly .appendInPlace⟩], none⟩) (v := ?_) rfl (by kernel_rfl) (fun _ _ _ h => h) (Or.inl ⟨by rfl, ?_⟩) ?_
          rotate_left
          ·intro w9; go_simp; try (with_reducible rfl)
          try simp only [Act.put,sA,List.set]
          refine anyP_take0 (i := 10) (oi := ⟨some 133, .nilCheck (.tmp 124), 0, "tree.go:42", #[⟨0, .data⟩, ⟨0, .phase⟩, ⟨1, .phase⟩, ⟨2, .phase⟩, ⟨3, .phase⟩, ⟨4, .phase⟩, ⟨5, .phase⟩, ⟨6, .phase⟩, ⟨7, .phase⟩, ⟨8, .textOnly .appendInPlace⟩, ⟨9, .textOnly .appendInPlace⟩], none⟩) (v := ?_) rfl (by kernel_rfl) (fun _ _ _ h => h) (Or.inl ⟨by rfl, ?_⟩) ?_
          rotate_left
          ·intro w9; go_simp; try (with_reducible rfl)
          try simp only [Act.put,sA,List.set]
          refine anyP_take0 (i := 11) (oi := ⟨some 134, .fieldAddr 32 (.tmp 133) 2, 0, "tree.go:42", #[⟨10, .data⟩, ⟨0, .phase⟩, ⟨1, .phase⟩, ⟨2, .phase⟩, ⟨3, .phase⟩, ⟨4, .phase⟩, ⟨5, .phase⟩, ⟨6, .phase⟩, ⟨7, .phase⟩, ⟨8, .textOnly .appendInPlace⟩, ⟨9, .textOnly .appendInPlace⟩], none⟩) (v := ?_) rfl (by kernel_rfl) (fun _ _ _ h => h) (Or.inl ⟨by rfl, ?_⟩) ?_
          rotate_left
          ·intro w9; go_simp; try (with_reducible rfl)
          try simp only [Act.put,sA,List.set]
          refine anyP_ready (rs := [9, 12]) (by kernel_rfl) (by simp) ?_
          refine ReadyP.cons (o := ⟨none, .store 32 (.tmp 132) (.tmp 128), 0, "tree.go:42", #[⟨8, .data⟩, ⟨4, .data⟩, ⟨7, .chain⟩, ⟨0, .phase⟩, ⟨1, .phase⟩, ⟨2, .phase⟩, ⟨3, .phase⟩, ⟨4, .phase⟩, ⟨5, .phase⟩, ⟨6, .phase⟩, ⟨7, .phase⟩, ⟨12, .gcOnly .appendInPlace⟩], none⟩) rfl (fun K hK => ?_) (ReadyP.cons (o := ⟨none, .store 30 (.tmp 134) (.tmp 131), 0, "tree.go:42", #[⟨11, .data⟩, ⟨7, .data⟩, ⟨7, .chain⟩, ⟨9, .textOnly .appendInPlace⟩, ⟨0, .phase⟩, ⟨1, .phase⟩, ⟨2, .phase⟩, ⟨3, .phase⟩, ⟨4, .phase⟩, ⟨5, .phase⟩, ⟨6, .phase⟩, ⟨7, .phase⟩, ⟨8, .textOnly .appendInPlace⟩, ⟨9, .textOnly .appendInPlace⟩], none⟩) rfl (fun K hK => ?_) ReadyP.nil)
          ·refine step_store rfl rfl 32 (.tmp 132) (.tmp 128) rfl _ (ndCells t.f0 t.f1 (.slice Au t.f2.length cu)) rfl rfl rfl infoNd8 (ndCells_one _ _ rfl) HH1.out HF1.out ?_
           refine hK.out _ _ (fun h => absurd h (by decide)) ?_
           clear hK K
           generalize w1.setCells g1 (q2 * 8) (ndCells t.f0 t.f1 (.slice Au t.f2.length cu)) = w2x at HH2 HAH ⊢
           refine anyP_ready (rs := [12]) (by kernel_rfl) (by simp) ?_
           refine ReadyP.cons (o := ⟨none, .store 30 (.tmp 134) (.tmp 131), 0, "tree.go:42", #[⟨11, .data⟩, ⟨7, .data⟩, ⟨7, .chain⟩, ⟨9, .textOnly .appendInPlace⟩, ⟨0, .phase⟩, ⟨1, .phase⟩, ⟨2, .phase⟩, ⟨3, .phase⟩, ⟨4, .phase⟩, ⟨5, .phase⟩, ⟨6, .phase⟩, ⟨7, .phase⟩, ⟨8, .textOnly .appendInPlace⟩, ⟨9, .textOnly .appendInPlace⟩], none⟩) rfl (fun K hK => ?_) ReadyP.nil
           refine step_store rfl rfl 30 (.tmp 134) (.tmp 131) rfl _ [.slice (some ⟨g1, 0, none⟩) (q2 + 1) c1] rfl rfl rfl infoNdS (fun u hu => by rw [List.mem_singleton.1 hu]; rfl) HH2.out HF2.out ?_
           refine hK.out _ _ (fun h => absurd h (by decide)) ?_
           clear hK K
           refine anyP_done (by kernel_rfl) ?_ _
           clear HH1 HH2 HH3 HH4 HF1 HF2 HF3 HF4
           have HZ := HAH
           clear HAH HCH
           generalize w2x.setCells g (p * 8 + 7) [.slice (some ⟨g1, 0, none⟩) (q2 + 1) c1] = wf at HZ ⊢
           have HN : Hid (BInv w wf l (i + 1) (.slice (some ⟨g, 0, none⟩) (p + 1) cv) (addKid u2 t :: S2)) := zh (by
            refine ⟨?_, (H.out.small.pop).add, (fun h => by cases h), ?_, HZ.out.2 _ _ (Nat.le_refl _) HBI4.out⟩
            ·rw [← HDR.out]; simp [runB, HKD.out]
            ·have hz := HZ.out.1; rw [List.reverse_cons]; exact hz)
           clear HZ
           go_wp2
           go_roundw
           case rel => exact ⟨i + 1, _, by omega, by go_num, HN⟩
           case measure => simp [intOf]; omega
          ·refine step_store rfl rfl 30 (.tmp 134) (.tmp 131) rfl _ [.slice (some ⟨g1, 0, none⟩) (q2 + 1) c1] rfl rfl rfl infoNdS (fun u hu => by rw [List.mem_singleton.1 hu]; rfl) HH3.out HF3.out ?_
           refine hK.out _ _ (fun h => absurd h (by decide)) ?_
           clear hK K
           generalize w1.setCells g (p * 8 + 7) [.slice (some ⟨g1, 0, none⟩) (q2 + 1) c1] = w2x at HH4 HCH ⊢
           refine anyP_ready (rs := [9]) (by kernel_rfl) (by simp) ?_
           refine ReadyP.cons (o := ⟨none, .store 32 (.tmp 132) (.tmp 128), 0, "tree.go:42", #[⟨8, .data⟩, ⟨4, .data⟩, ⟨7, .chain⟩, ⟨0, .phase⟩, ⟨1, .phase⟩, ⟨2, .phase⟩, ⟨3, .phase⟩, ⟨4, .phase⟩, ⟨5, .phase⟩, ⟨6, .phase⟩, ⟨7, .phase⟩, ⟨12, .gcOnly .appendInPlace⟩], none⟩) rfl (fun K hK => ?_) ReadyP.nil
           refine step_store rfl rfl 32 (.tmp 132) (.tmp 128) rfl _ (ndCells t.f0 t.f1 (.slice Au t.f2.length cu)) rfl rfl rfl infoNd8 (ndCells_one _ _ rfl) HH4.out HF4.out ?_
           refine hK.out _ _ (fun h => absurd h (by decide)) ?_
           clear hK K
           refine anyP_done (by kernel_rfl) ?_ _
           clear HH1 HH2 HH3 HH4 HF1 HF2 HF3 HF4
           have HZ := HCH
           clear HAH HCH
           generalize w2x.setCells g1 (q2 * 8) (ndCells t.f0 t.f1 (.slice Au t.f2.length cu)) = wf at HZ ⊢
           have HN : Hid (BInv w wf l (i + 1) (.slice (some ⟨g, 0, none⟩) (p + 1) cv) (addKid u2 t :: S2)) := zh (by
            refine ⟨?_, (H.out.small.pop).add, (fun h => by cases h), ?_, HZ.out.2 _ _ (Nat.le_refl _) HBI4.out⟩
            ·rw [← HDR.out]; simp [runB, HKD.out]
            ·have hz := HZ.out.1; rw [List.reverse_cons]; exact hz)
           clear HZ
           go_wp2
           go_roundw
           case rel => exact ⟨i + 1, _, by omega, by go_num, HN⟩
           case measure => simp [intOf]; omega
        ·have dne : (t.f0 != nd) = true := bne_iff_ne.2 hkd
         clear hS
         have hown := H.out.own
         rw [List.reverse_cons] at hown
         obtain ⟨g, cap, u, hgu, htx⟩ := tops_of hown
         rw [List.length_reverse] at hgu
         have hsS : S'.length + 1 = sl := HSL.out
         rw [hsS] at hgu
         injection hgu with hg1 _ hg3
         subst hg1; subst hg3
         obtain ⟨m, rfl⟩ : ∃ m, sl = m + 1 := ⟨S'.length, hsS.symm⟩
         obtain ⟨Au, cu, hu⟩ := top_slice htx
         subst hu
         obtain ⟨cells, G1, G2, kc, Gk, hX⟩ := htx.top
         have hcap := topsX_cap hX
         rw [List.length_reverse] at hcap
         have HX0 := zh hX
         have HM0 : Hid (S'.reverse.length = m) := zh (by rw [List.length_reverse]; omega)
         have hcap1 : m + 1 ≤ cv := by omega
         have hcap2 : (m : Int) ≤ (cv : Int) := by omega
         have dm : ((m : Int) + 1 == 0) = false := beq_eq_false_iff_ne.2 (by omega)
         have bm1 : (0 : Int) ≤ (m : Int) := by omega
         have bm2 : (m : Int) < (m : Int) + 1 := by omega
         have hq : t.f2.length ≤ i := H.out.small.2 t List.mem_cons_self
         have HQI := zh hq
         clear hown htx hX hsS hcap hq
         have hbx : ∀ w1, Below (wr.heap.size + 1) (wr.alloc (.cells #[.int .u8 3, .int .u8 nd, .int .u8 k0, .string tx, .int .i64 p0, .int .i64 p1, .int .i64 p2, .int .i64 fd] 48)) w1 → _ := fun w1 h => box8 h
         have hbo := H.out.out
         have hbi := H.out.below
         obtain ⟨W1, hW1⟩ : ∃ W1, wr.alloc (.cells #[.int .u8 3, .int .u8 nd, .int .u8 k0, .string tx, .int .i64 p0, .int .i64 p1, .int .i64 p2, .int .i64 fd] 48) = W1 := ⟨_, rfl⟩
         have hs1 : W1.heap.size = wr.heap.size + 1 := by rw [← hW1, World.size_alloc]
         have hb1 : Below wr.heap.size wr W1 := by rw [← hW1]; exact (Below.refl wr.heap.size wr).alloc (Nat.le_refl _) _
         rw [hW1] at hbx
         have HS1 := zh hs1
         have HBY := zh hbx
         have HW1 := zh hW1
         have HB1 := zh hb1
         have HBI := zh hbi
         have hbox := zh (box_later HBX.out hb1)
         have hout := zh (hbo.trans (hb1.mono hbo.size))
         have HSZ : Hid (w.heap.size + 1 ≤ wr.heap.size) := zh (by have h := hbi.size; simp only [World.size_alloc] at h; exact h)
         clear hs1 hbx hW1 hb1 hbo hbi
         go_upto_region 7 with (fail)
         rw [HW1.out]
         obtain ⟨y0, y1, y2, y3, y4, y5, y6, y7⟩ := HBY.out W1 (Below.refl _ _)
         have HXW : Hid (TopsX W1 (w.heap.size + 1) g cv S'.reverse t (.slice Au t.f2.length cu) (fun _ => True) cells G1 G2 kc Gk) := zh (topsX_later HX0.out HB1.out)
         have z0 : W1.cell? ⟨g, m * 8, none⟩ = some (.int .u8 t.f0) := by have h := (topsX_at HXW.out 0 _ rfl).1; rw [HM0.out] at h; exact h
         have z1 : W1.cell? ⟨g, m * 8 + 1, none⟩ = some (.int .u8 t.f1.f0) := by have h := (topsX_at HXW.out 1 _ rfl).1; rw [HM0.out] at h; exact h
         have z2 : W1.cell? ⟨g, m * 8 + 2, none⟩ = some (.string t.f1.f1) := by have h := (topsX_at HXW.out 2 _ rfl).1; rw [HM0.out] at h; exact h
         have z3 : W1.cell? ⟨g, m * 8 + 3, none⟩ = some (.int .i64 t.f1.f2.f0) := by have h := (topsX_at HXW.out 3 _ rfl).1; rw [HM0.out] at h; exact h
         have z4 : W1.cell? ⟨g, m * 8 + 4, none⟩ = some (.int .i64 t.f1.f2.f1) := by have h := (topsX_at HXW.out 4 _ rfl).1; rw [HM0.out] at h; exact h
         have z5 : W1.cell? ⟨g, m * 8 + 5, none⟩ = some (.int .i64 t.f1.f2.f2) := by have h := (topsX_at HXW.out 5 _ rfl).1; rw [HM0.out] at h; exact h
         have z6 : W1.cell? ⟨g, m * 8 + 6, none⟩ = some (.int .i64 t.f1.f3) := by have h := (topsX_at HXW.out 6 _ rfl).1; rw [HM0.out] at h; exact h
         have z7 : W1.cell? ⟨g, m * 8 + 7, none⟩ = some (.slice Au t.f2.length cu) := by have h := (topsX_at HXW.out 7 _ rfl).1; rw [HM0.out] at h; exact h
         clear z1 z2 z3 z4 z5 z6 z7
         go_wp2
         go_quiet (fail)
         rename_i nq
         obtain ⟨W2, hW2⟩ : ∃ W2, W1.drewN nq = W2 := ⟨_, rfl⟩
         have hb2 : Below W1.heap.size W1 W2 := by rw [← hW2]; exact pw_below_drewN (Below.refl _ _) nq
         have HB2 := zh hb2
         have hs2 : W2.heap.size = W1.heap.size := by rw [← hW2]; rfl
         have HS2 := zh hs2
         rw [hW2]
         have hbox2 := zh ((hb2.block _ (blk_lt hbox.out)).trans hbox.out)
         have hout2 := zh (hout.out.trans (hb2.mono hout.out.size))
         clear hb2 hs2 hW2
         have HRN : Hid (runB l [] = none) := zh (by rw [← HDR.out]; simp [runB, hkd])
         go_wp2_with ((with_reducible refine gate_ (.store 32 (.tmp 2) (.tmp 97)) rfl ?_); refine wl_box rfl rfl _ _ _ rfl (.agg zNd.toArray) zNd rfl rfl rfl infoNd8 zNd_one hbox2.out rfl ?_; intro w5 h5 hu; have H5 := zh (hu.below hout2.out (Nat.le_refl _)); clear hu; obtain ⟨c0, c1, c2, c3, c4, c5, c6, c7⟩ := cells8 h5; clear h5)
         refine bodyPost_ret (v := .tuple #[.agg zNd.toArray, .int .i64 130]) ?_ rfl (BuildPost.err HRN.out H5.out)
         rw [results_cell_tmp rfl]
         go_simp
         try rfl
      ·have dk3 : (k == 3) = false := beq_eq_false_iff_ne.2 hk3
       have hbx : ∀ w1, Below (wr.heap.size + 1) (wr.alloc (.cells #[.int .u8 k, .int .u8 nd, .int .u8 k0, .string tx, .int .i64 p0, .int .i64 p1, .int .i64 p2, .int .i64 fd] 48)) w1 → _ := fun w1 h => box8 h
       have hbo := H.out.out
       have hbi := H.out.below
       obtain ⟨W1, hW1⟩ : ∃ W1, wr.alloc (.cells #[.int .u8 k, .int .u8 nd, .int .u8 k0, .string tx, .int .i64 p0, .int .i64 p1, .int .i64 p2, .int .i64 fd] 48) = W1 := ⟨_, rfl⟩
       have hs1 : W1.heap.size = wr.heap.size + 1 := by rw [← hW1, World.size_alloc]
       have hb1 : Below wr.heap.size wr W1 := by rw [← hW1]; exact (Below.refl wr.heap.size wr).alloc (Nat.le_refl _) _
       rw [hW1] at hbx
       have HS1 := zh hs1
       have HBY := zh hbx
       have HW1 := zh hW1
       have HB1 := zh hb1
       have HBI := zh hbi
       have hbox := zh (box_later HBX.out hb1)
       have hout := zh (hbo.trans (hb1.mono hbo.size))
       have HSZ : Hid (w.heap.size + 1 ≤ wr.heap.size) := zh (by have h := hbi.size; simp only [World.size_alloc] at h; exact h)
       clear hs1 hbx hW1 hb1 hbo hbi
       go_upto_region 7 with (fail)
       rw [HW1.out]
       obtain ⟨y0, y1, y2, y3, y4, y5, y6, y7⟩ := HBY.out W1 (Below.refl _ _)
       have HRN : Hid (runB l [] = none) := zh (by rw [← HDR.out]; simp [runB, hk1, hk2, hk4, hk3])
       go_wp2_with ((with_reducible refine gate_ (.store 32 (.tmp 2) (.tmp 19)) rfl ?_); refine wl_box rfl rfl _ _ _ rfl (.agg zNd.toArray) zNd rfl rfl rfl infoNd8 zNd_one hbox.out rfl ?_; intro w5 h5 hu; have H5 := zh (hu.below hout.out (Nat.le_refl _)); clear hu; obtain ⟨c0, c1, c2, c3, c4, c5, c6, c7⟩ := cells8 h5; clear h5)
       refine bodyPost_ret (v := .tuple #[.agg zNd.toArray, .int .i64 130]) ?_ rfl (BuildPost.err HRN.out H5.out)
       rw [results_cell_tmp rfl]
       go_simp
       try rfl
  ·obtain rfl : n = i := by omega
   have dl : decide ((n : Int) < (n : Int)) = false := decide_eq_false (by omega)
   have hout := zh H.out.out
   have HRN : Hid (runB l [] = none) := zh (by rw [← H.out.run, List.drop_of_length_le (by have := HL.out; omega)]; rfl)
   go_wp2_with ((with_reducible refine gate_ (.store 32 (.tmp 2) (.tmp 136)) rfl ?_); refine wl_box rfl rfl _ _ _ rfl (.agg zNd.toArray) zNd rfl rfl rfl infoNd8 zNd_one HBX.out rfl ?_; intro w5 h5 hu; have H5 := zh (hu.below hout.out (Nat.le_refl _)); clear hu; obtain ⟨c0, c1, c2, c3, c4, c5, c6, c7⟩ := cells8 h5; clear h5)
   refine bodyPost_ret (v := .tuple #[.agg zNd.toArray, .int .i64 130]) ?_ rfl (BuildPost.err HRN.out H5.out)
   rw [results_cell_tmp rfl]
   go_simp
   try rfl
end Go.Proofs.YtmjbpgnjgblnmaaGreat.Tr
namespace Go.Proofs.YtmjbpgnjgblnmaaGreat
open Go.RowKit Go.Proofs.YtmjbpgnjgblnmaaGreatW.PrintWords Go.Proofs.YtmjbpgnjgblnmaaGreatW.PrintLast Go.Proofs.YtmjbpgnjgblnmaaGreatW.PrintMore
theorem wp_opaque {P : Program} {c : Code} {Q : Exit → Act → World → Prop} {a : Act} {w : World} (h : ∀ Q' : Exit → Act → World → Prop, (∀ e a w, Q e a w → Q' e a w) → c.wp P Q' a w) : c.wp P Q a w := h Q (fun _ _ _ h => h)
theorem wp_opaque2 {P : Program} {c : Code} {Q : Exit → Act → World → Prop} {a : Act} {w : World} (hp : ∀ x (a : Act) d v w, Q (.panic x) (a.put d v) w → Q (.panic x) a w) (h : ∀ Q' : Exit → Act → World → Prop, (∀ e a w, Q e a w → Q' e a w) → (∀ x (a : Act) d v w, Q' (.panic x) (a.put d v) w → Q' (.panic x) a w) → c.wp P Q' a w) : c.wp P Q a w := h Q (fun _ _ _ h => h) hp
theorem wp_tmps {P : Program} {c : Code} {Q : Exit → Act → World → Prop} {t t' : Array Value} {d : List Deferred} {w : World} (h : t = t') (hw : c.wp P Q { tmps := t', defers := d } w) : c.wp P Q { tmps := t, defers := d } w := h ▸ hw
theorem under_any : Tryz.prog.underlying 20 = some (.interface (Tryz.prog.methodsAt 20)) := by kernel_rfl
theorem neq_nn (w : World) : (binOp .neq 20 .nilIface .nilIface).run Tryz.prog w = .ok (.bool false) w := run_neq_nil_nil w _ under_any
theorem neq_hn (u : TypeId) (x : Value) (w : World) : (binOp .neq 20 (.iface u x) .nilIface).run Tryz.prog w = .ok (.bool true) w := run_neq_held_nil w _ u x under_any
theorem catch_idle (g0 g1 g2 : Nat) (w : World) :
  CallsD Tryz.prog 17 #[.pointer (some ⟨g0, 0, none⟩), .pointer (some ⟨g1, 0, none⟩), .pointer (some ⟨g2, 0, none⟩)] .returning w fun e u' w' => e = .returned (.tuple #[]) ∧ u' = .returning ∧ w' = w := by
 refine callsD_of_wpS Tryz.func17 rfl fun c₀ cs hu => ?_
 apply wpS_seq
 apply wpS_region
 simp [wpOpsS, go_sem, recoverD, hu, Tryz.ntmps17, Exit.thenS]
 refine wpS_of_wp (wp_opaque fun Q' hQ' => ?_)
 have hneq := neq_nn w
 refine wp_tmps (t' := #[.pointer (some ⟨g0, 0, none⟩), .pointer (some ⟨g1, 0, none⟩), .pointer (some ⟨g2, 0, none⟩), .nilIface, undef, undef, .nilIface, undef, undef, undef, undef, undef, undef, undef, undef, undef, undef, undef, undef, undef, undef, undef]) (by kernel_rfl) ?_
 go_wp2
 cases c₀
 simp_all [bodyPostS, results, Tryz.results17]
theorem any_store {ops : Array Oper} {md : Region.Mode} {Q : Exit → Act → World → Prop} {S : World → Prop} {early : Nat → Bool} {fuel : Nat} {listed : Array Bool} {a : Act} {W : World} {o : Oper} (i : Nat) (hr : Region.ready md ops listed = [i]) (hi : ops[i]? = some o) (hgd : o.guard = none) (hd : o.dst = none) (t : TypeId) (p x : Operand) (ho : o.op = .store t p x) {g off : Nat} {e : TypeId} {cur : Array Value} (u : Value) (seg : List Value) (haddr : a.eval p = .pointer (some ⟨g, off, none⟩)) (hx : a.eval x = u) (hu : u.cells.toList = seg)
  (ht : (Tryz.prog.info? t).map (·.size) = some seg.length) (h1 : ∀ v ∈ seg, v.oneCell' = true) (hh : W.heap[g]? = some (.cells cur e (0, 0))) (hfit : off + seg.length ≤ cur.size) (hS : S (W.setCells g off seg))
  (h : AnyP Tryz.prog md ops Q S early fuel (listed.setIfInBounds i true) a (W.setCells g off seg)) : AnyP Tryz.prog md ops Q S early (fuel + 1) listed a W :=
 anyP_ready hr (by simp) (ReadyP.cons hi (fun K hK => step_store hgd hd t p x ho u seg haddr hx hu ht h1 hh hfit (hK.out _ _ (fun _ => hS) h)) ReadyP.nil)
theorem cell_same {w w2 : World} {g i : Nat} (h : w2.heap[g]? = w.heap[g]?) : w2.cell? ⟨g, i, none⟩ = w.cell? ⟨g, i, none⟩ := by
 unfold World.cell?
 rw [h]
theorem wrong_rows {g0 g1 g2 : Nat} {w : World} {z0 : Array Value} {z1 z2 : Value} (h0 : w.heap[g0]? = some (.cells z0 32 (0, 0))) (hz : z0.size = 8) (h1 : w.heap[g1]? = some (.cells #[z1] 33 (0, 0))) (h2 : w.heap[g2]? = some (.cells #[z2] 3 (0, 0))) (hne : g0 ≠ g1 ∧ g0 ≠ g2 ∧ g1 ≠ g2) (er : Int) (j : Nat) :
  (w.alloc (.cells #[.int .i64 er, .int .i64 j] 52)).drew.heap[g0]? = some (.cells z0 32 (0, 0)) ∧ ((w.alloc (.cells #[.int .i64 er, .int .i64 j] 52)).drew.setCells g0 0 Tr.zNd).heap[g1]? = some (.cells #[z1] 33 (0, 0)) ∧ (((w.alloc (.cells #[.int .i64 er, .int .i64 j] 52)).drew.setCells g0 0 Tr.zNd).setCells g1 0 [.int .i64 er]).heap[g2]? = some (.cells #[z2] 3 (0, 0)) := by
 have hb := (Below.refl w.heap.size w).alloc (Nat.le_refl _) (.cells #[.int .i64 er, .int .i64 j] 52) |>.drew
 refine ⟨(hb.block _ (blk_lt h0)).trans h0, (setCells_far _ _ _ (Ne.symm hne.1)).trans ((hb.block _ (blk_lt h1)).trans h1), (setCells_far _ _ _ (Ne.symm hne.2.2)).trans ((setCells_far _ _ _ (Ne.symm hne.2.1)).trans ((hb.block _ (blk_lt h2)).trans h2))⟩
theorem catch_wrong (g0 g1 g2 : Nat) (w : World) (er : Int) (j : Nat) (z0 : Array Value) (z1 z2 : Value) (h0 : w.heap[g0]? = some (.cells z0 32 (0, 0))) (hz : z0.size = 8) (h1 : w.heap[g1]? = some (.cells #[z1] 33 (0, 0))) (h2 : w.heap[g2]? = some (.cells #[z2] 3 (0, 0))) (hne : g0 ≠ g1 ∧ g0 ≠ g2 ∧ g1 ≠ g2) :
  CallsD Tryz.prog 17 #[.pointer (some ⟨g0, 0, none⟩), .pointer (some ⟨g1, 0, none⟩), .pointer (some ⟨g2, 0, none⟩)] (.panicking [{ v := .iface 52 (.agg #[.int .i64 er, .int .i64 j]), recovered := false }]) w fun e u' w' => e = .returned (.tuple #[]) ∧ u' = .panicking [{ v := .iface 52 (.agg #[.int .i64 er, .int .i64 j]), recovered := true }] ∧ w' = (((w.alloc (.cells #[.int .i64 er, .int .i64 j] 52)).drew.setCells g0 0 Tr.zNd).setCells g1 0 [.int .i64 er]).setCells g2 0 [.int .i64 j] := by
 have HZ := zh hz
 refine callsD_of_wpS Tryz.func17 rfl fun c₀ cs hu => ?_
 apply wpS_seq
 apply wpS_region
 simp [wpOpsS, go_sem, recoverD, hu, Tryz.ntmps17, Exit.thenS]
 refine wpS_of_wp (wp_opaque2 (fun x a d v w h => by simp [bodyPostS] at h) fun Q' hQ' hP' => ?_)
 have hta : ∀ w1, (Instr.typeAssert (.iface 52 (.agg #[.int .i64 er, .int .i64 j])) 20 52 true).run Tryz.prog w1 = .ok (.tuple #[.agg #[.int .i64 er, .int .i64 j], .bool true]) w1 := fun w1 => by kernel_rfl
 have hneq := neq_hn 52 (.agg #[.int .i64 er, .int .i64 j]) w
 refine wp_tmps (t' := #[.pointer (some ⟨g0, 0, none⟩), .pointer (some ⟨g1, 0, none⟩), .pointer (some ⟨g2, 0, none⟩), .iface 52 (.agg #[.int .i64 er, .int .i64 j]), undef, undef, .iface 52 (.agg #[.int .i64 er, .int .i64 j]), undef, undef, undef, undef, undef, undef, undef, undef, undef, undef, undef, undef, undef, undef, undef]) (by kernel_rfl) ?_
 go_wp2
 refine wp_region_P (fun w' => w'.cell? ⟨w.heap.size, 0, none⟩ = some (.int .i64 er) ∧ w'.cell? ⟨w.heap.size, 1, none⟩ = some (.int .i64 j)) (fun _ => true) (by kernel_rfl) ?_
 have HS : Hid ((w.alloc (.cells #[.int .i64 er, .int .i64 j] 52)).drew.cell? ⟨w.heap.size, 0, none⟩ = some (.int .i64 er) ∧ (w.alloc (.cells #[.int .i64 er, .int .i64 j] 52)).drew.cell? ⟨w.heap.size, 1, none⟩ = some (.int .i64 j)) := zh ⟨by simp [go_sem], by simp [go_sem]⟩
 have HF : Hid (∀ w2 : World, w2.heap[w.heap.size]? = (w.alloc (.cells #[.int .i64 er, .int .i64 j] 52)).drew.heap[w.heap.size]? → w2.cell? ⟨w.heap.size, 0, none⟩ = some (.int .i64 er) ∧ w2.cell? ⟨w.heap.size, 1, none⟩ = some (.int .i64 j)) := zh fun w2 h => ⟨(cell_same h).trans HS.out.1, (cell_same h).trans HS.out.2⟩
 have hl0 := blk_lt h0
 have hl1 := blk_lt h1
 have hl2 := blk_lt h2
 have HA := zh (wrong_rows h0 hz h1 h2 hne er j)
 generalize (w.alloc (.cells #[.int .i64 er, .int .i64 j] 52)).drew = w1 at HS HA HF hQ' ⊢
 refine anyP_take (i := 0) (oi := ⟨some 17, .build 32 #[], 32, "syntax.go:31", #[], none⟩) (v := ?_) rfl (by kernel_rfl) (fun _ _ _ h => hP' _ _ _ _ _ h) (Or.inl ⟨by rfl, ?_⟩) HS.out ?_
 rotate_left
 ·intro x h; go_simp; try (with_reducible rfl)
 try simp only [Act.put,sA,List.set]
 refine anyP_take (i := 1) (oi := ⟨some 18, .fieldAddr 52 (.tmp 4) 0, 0, "syntax.go:31", #[⟨5, .gcOnly .lateStores⟩], none⟩) (v := ?_) rfl (by kernel_rfl) (fun _ _ _ h => hP' _ _ _ _ _ h) (Or.inl ⟨by rfl, ?_⟩) HS.out ?_
 rotate_left
 ·intro x h; go_simp; try (with_reducible rfl)
 try simp only [Act.put,sA,List.set]
 refine anyP_take (i := 2) (oi := ⟨some 19, .load 33 (.tmp 18), 33, "syntax.go:31", #[⟨1, .data⟩, ⟨5, .gcOnly .lateStores⟩], none⟩) (v := ?_) rfl (by kernel_rfl) (fun _ _ _ h => hP' _ _ _ _ _ h) (Or.inl ⟨by rfl, ?_⟩) HS.out ?_
 rotate_left
 ·intro x h; go_simp; try (with_reducible rfl)
 try simp only [Act.put,sA,List.set]
 refine anyP_take (i := 3) (oi := ⟨some 20, .fieldAddr 52 (.tmp 4) 1, 0, "syntax.go:31", #[⟨6, .gcOnly .lateStores⟩], none⟩) (v := ?_) rfl (by kernel_rfl) (fun _ _ _ h => hP' _ _ _ _ _ h) (Or.inl ⟨by rfl, ?_⟩) HS.out ?_
 rotate_left
 ·intro x h; go_simp; try (with_reducible rfl)
 try simp only [Act.put,sA,List.set]
 refine anyP_take (i := 4) (oi := ⟨some 21, .load 3 (.tmp 20), 3, "syntax.go:31", #[⟨3, .data⟩, ⟨6, .gcOnly .lateStores⟩], none⟩) (v := ?_) rfl (by kernel_rfl) (fun _ _ _ h => hP' _ _ _ _ _ h) (Or.inl ⟨by rfl, ?_⟩) HS.out ?_
 rotate_left
 ·intro x h; go_simp; try (with_reducible rfl)
 try simp only [Act.put,sA,List.set]
 refine any_store 5 (o := ⟨none, .store 32 (.tmp 0) (.tmp 17), 0, "syntax.go:31", #[⟨0, .data⟩, ⟨0, .phase⟩, ⟨1, .textOnly .lateStores⟩, ⟨2, .textOnly .lateStores⟩, ⟨3, .textOnly .lateStores⟩, ⟨4, .textOnly .lateStores⟩], none⟩) (by kernel_rfl) (by kernel_rfl) rfl rfl 32 (.tmp 0) (.tmp 17) rfl (g := g0) (off := 0) (.agg Tr.zNd.toArray) Tr.zNd rfl rfl rfl Tr.infoNd8 Tr.zNd_one HA.out.1 (by rw [HZ.out]; exact Nat.le_refl _) (HF.out _ (setCells_far _ _ _ (by omega))) ?_
 refine any_store 6 (o := ⟨none, .store 33 (.tmp 1) (.tmp 19), 0, "syntax.go:31", #[⟨2, .data⟩, ⟨5, .chain⟩, ⟨0, .phase⟩, ⟨1, .phase⟩, ⟨2, .phase⟩, ⟨3, .textOnly .lateStores⟩, ⟨4, .textOnly .lateStores⟩, ⟨5, .phase⟩], none⟩) (by kernel_rfl) (by kernel_rfl) rfl rfl 33 (.tmp 1) (.tmp 19) rfl (g := g1) (off := 0) (.int .i64 er) [.int .i64 er] rfl rfl rfl (by kernel_rfl) (fun v hv => by rw [List.mem_singleton.1 hv]; rfl) HA.out.2.1 (Nat.le_refl _) (HF.out _ ((setCells_far _ _ _ (by omega)).trans (setCells_far _ _ _ (by omega)))) ?_
 refine any_store 7 (o := ⟨none, .store 3 (.tmp 2) (.tmp 21), 0, "syntax.go:31", #[⟨4, .data⟩, ⟨6, .chain⟩, ⟨0, .phase⟩, ⟨1, .phase⟩, ⟨2, .phase⟩, ⟨3, .phase⟩, ⟨4, .phase⟩, ⟨5, .phase⟩, ⟨6, .phase⟩], none⟩) (by kernel_rfl) (by kernel_rfl) rfl rfl 3 (.tmp 2) (.tmp 21) rfl (g := g2) (off := 0) (.int .i64 j) [.int .i64 j] rfl rfl rfl (by kernel_rfl) (fun v hv => by rw [List.mem_singleton.1 hv]; rfl) HA.out.2.2 (Nat.le_refl _) (HF.out _ ((setCells_far _ _ _ (by omega)).trans ((setCells_far _ _ _ (by omega)).trans (setCells_far _ _ _ (by omega))))) ?_
 refine anyP_done (by kernel_rfl) ?_ _
 refine hQ' _ _ _ ?_
 clear hP' hQ' HS HA HF hta hneq
 cases c₀
 simp_all [bodyPostS, results, Tryz.results17]
def progE (l : List Tk) : Int := (allP newPar l).2.1
def progA (l : List Tk) : Nat := if (allP newPar l).2.1 = 0 then 0 else (allP newPar l).2.2
theorem reps_ev (V : World) (l : List Ev) : Reps (kEv.K V) 8 l (l.flatMap evCells) := by
 induction l with
 | nil => exact Reps.none _ _
 | cons x l ih =>
  have := Kd.reps_append ((Reps.none (kEv.K V) 8).snoc (PSyntaxProgram.k48_mk V x) rfl) ih
  rw [List.nil_append, List.nil_append, List.singleton_append] at this
  exact this
theorem evs_any {V : World} {base : Nat} {v : Value} {l : List Ev} (h : V.ownsRow base 48 8 v l.length (l.flatMap evCells)) : ∃ A c, v = .slice A l.length c ∧ l.length ≤ c ∧ Kd.C kEv V A l.length l := by
 obtain ⟨A, c, hv, hr⟩ := own_reads_row (size := 8) h (reps_ev V l) rfl
 obtain ⟨A2, c2, hv2, hc⟩ := row_slice h
 subst hv
 injection hv2 with h1 h2 h3
 subst h3
 exact ⟨A, _, rfl, hc, hr⟩
def prNd (l : List Tk) : Tr.Nd := if (allP newPar l).2.1 = 0 then (Tr.bld (allP newPar l).1).1 else Tr.noNd
abbrev ndAgg (x : Tr.Nd) (v : Value) : Value := .agg #[.int .u8 x.f0, .int .u8 x.f1.f0, .string x.f1.f1, .int .i64 x.f1.f2.f0, .int .i64 x.f1.f2.f1, .int .i64 x.f1.f2.f2, .int .i64 x.f1.f3, v]
def ProgPost (w : World) (l : List Tk) (e : Ending) (w' : World) : Prop :=
 ∃ v, e = .returned (.tuple #[ndAgg (prNd l) v, .int .i64 (progE l), .int .i64 (progA l)]) ∧ Tr.OwnS w' w.heap.size v (prNd l).f2 (fun _ => True) ∧ Below w.heap.size w w'
abbrev z8 : Array Value := #[.int .u8 0, .int .u8 0, .string ⟨#[]⟩, .int .i64 0, .int .i64 0, .int .i64 0, .int .i64 0, .slice none 0 0]
abbrev prW (w : World) : World := ((w.alloc (.cells z8 32)).alloc (.cells #[.int .i64 0] 33)).alloc (.cells #[.int .i64 0] 3)
theorem owns_slice {w : World} {base : Nat} {v : Value} {kids : List Tr.Nd} {F : Nat → Prop} (h : Tr.OwnS w base v kids F) : ∃ A c, v = .slice A kids.length c := by
 obtain ⟨cells, G, hr, -⟩ := h
 obtain ⟨A, c, hv, -⟩ := row_slice hr
 exact ⟨A, c, hv⟩
theorem setCells_all {g : Nat} {W : World} {cur : Array Value} {e : TypeId} {seg : List Value} (hh : W.heap[g]? = some (.cells cur e (0, 0))) (hl : cur.size = seg.length) : (W.setCells g 0 seg).heap[g]? = some (.cells seg.toArray e (0, 0)) ∧ Tr.Upd g W (W.setCells g 0 seg) := by
 obtain ⟨cur', h3, h4, h5⟩ := setCells_row seg 0 W cur hh (by omega)
 have hs := setCells_same g seg 0 W
 refine ⟨?_, ⟨fun k hk => setCells_far seg 0 k hk, hs.1, hs.2.1, hs.2.2.1, hs.2.2.2⟩⟩
 rw [h3]
 congr 2
 apply Array.toList_inj.1
 rw [h5, List.take_zero, List.nil_append, List.drop_of_length_le (by rw [Array.length_toList]; omega), List.append_nil]
theorem wrong_after {g0 g1 g2 : Nat} {w : World} {z0 : Array Value} {z1 z2 : Value} (h0 : w.heap[g0]? = some (.cells z0 32 (0, 0))) (hz : z0.size = 8) (h1 : w.heap[g1]? = some (.cells #[z1] 33 (0, 0))) (h2 : w.heap[g2]? = some (.cells #[z2] 3 (0, 0))) (hne : g0 ≠ g1 ∧ g0 ≠ g2 ∧ g1 ≠ g2) (er : Int) (j : Nat) {B : Nat} {w0 : World} (hb : Below B w0 w) (b0 : B ≤ g0) (b1 : B ≤ g1) (b2 : B ≤ g2) :
  ∃ V, (((w.alloc (.cells #[.int .i64 er, .int .i64 j] 52)).drew.setCells g0 0 Tr.zNd).setCells g1 0 [.int .i64 er]).setCells g2 0 [.int .i64 j] = V ∧ V.heap[g0]? = some (.cells Tr.zNd.toArray 32 (0, 0)) ∧ V.heap[g1]? = some (.cells #[.int .i64 er] 33 (0, 0)) ∧ V.heap[g2]? = some (.cells #[.int .i64 j] 3 (0, 0)) ∧ Below B w0 V := by
 obtain ⟨k0, k1, k2⟩ := wrong_rows h0 hz h1 h2 hne er j
 have hb1 : Below B w0 (w.alloc (.cells #[.int .i64 er, .int .i64 j] 52)).drew := (hb.trans ((Below.refl B w).alloc (by have := blk_lt h0; omega) _)).drew
 generalize (w.alloc (.cells #[.int .i64 er, .int .i64 j] 52)).drew = w1 at k0 k1 k2 hb1 ⊢
 obtain ⟨r0, u0⟩ := setCells_all (seg := Tr.zNd) k0 hz
 generalize w1.setCells g0 0 Tr.zNd = w2 at k1 k2 r0 u0 ⊢
 obtain ⟨r1, u1⟩ := setCells_all (seg := [.int .i64 er]) k1 rfl
 generalize w2.setCells g1 0 [.int .i64 er] = w3 at k2 r1 u1 ⊢
 obtain ⟨r2, u2⟩ := setCells_all (seg := [.int .i64 j]) k2 rfl
 exact ⟨_, rfl, (u2.far _ hne.2.1).trans ((u1.far _ hne.1).trans r0), (u2.far _ hne.2.2).trans r1, r2, u2.below (u1.below (u0.below hb1 b0) b1) b2⟩
theorem pr_start (A : Option Addr) (c : Nat) (l : List Tk) (w : World) (hC : Kd.C kTk w A l.length l) (hl : l.length ≤ 4194304) : ∃ V, (prW w).alloc (.cells #[.slice A l.length c, .int .i64 0, .int .i64 0, .slice none 0 0] 56) = V ∧ V.heap[w.heap.size]? = some (.cells z8 32 (0, 0)) ∧ V.heap[w.heap.size + 1]? = some (.cells #[.int .i64 0] 33 (0, 0)) ∧ V.heap[w.heap.size + 1 + 1]? = some (.cells #[.int .i64 0] 3 (0, 0)) ∧ SAt w A c l V (w.heap.size + 1 + 1 + 1) 0 0 [] (.slice none 0 0) ∧ V.heap.size = w.heap.size + 1 + 1 + 1 + 1 := by
 have s1 : (w.alloc (.cells z8 32)).heap.size = w.heap.size + 1 := World.size_alloc _ _
 have s2 : ((w.alloc (.cells z8 32)).alloc (.cells #[.int .i64 0] 33)).heap.size = w.heap.size + 1 + 1 := by rw [World.size_alloc, s1]
 have s3 : (prW w).heap.size = w.heap.size + 1 + 1 + 1 := by rw [World.size_alloc, s2]
 have n0 := World.alloc_heap_new w (.cells z8 32)
 have n1 := World.alloc_heap_new (w.alloc (.cells z8 32)) (.cells #[.int .i64 0] 33)
 have n2 := World.alloc_heap_new ((w.alloc (.cells z8 32)).alloc (.cells #[.int .i64 0] 33)) (.cells #[.int .i64 0] 3)
 have n3 := World.alloc_heap_new (prW w) (.cells #[.slice A l.length c, .int .i64 0, .int .i64 0, .slice none 0 0] 56)
 rw [s1] at n1
 rw [s2] at n2
 rw [s3] at n3
 have b1 := (Below.refl (w.heap.size + 1) (w.alloc (.cells z8 32))).alloc (by rw [s1]; exact Nat.le_refl _) (.cells #[.int .i64 0] 33)
 have b2 := (Below.refl (w.heap.size + 1 + 1) ((w.alloc (.cells z8 32)).alloc (.cells #[.int .i64 0] 33))).alloc (by rw [s2]; exact Nat.le_refl _) (.cells #[.int .i64 0] 3)
 have b3 := (Below.refl (w.heap.size + 1 + 1 + 1) (prW w)).alloc (by rw [s3]; exact Nat.le_refl _) (.cells #[.slice A l.length c, .int .i64 0, .int .i64 0, .slice none 0 0] 56)
 refine ⟨_, rfl, ?_, ?_, ?_, ⟨n3, ⟨rfl, .inl ⟨rfl, rfl⟩⟩, ?_, hC, by omega, hl, Nat.zero_le _⟩, ?_⟩
 ·exact (b3.block _ (by omega)).trans ((b2.block _ (by omega)).trans ((b1.block _ (by omega)).trans n0))
 ·exact (b3.block _ (by omega)).trans ((b2.block _ (by omega)).trans n1)
 ·exact (b3.block _ (by omega)).trans n2
 ·exact ((Below.refl w.heap.size w).alloc (Nat.le_refl _) _).trans (((b1.mono (by omega)).trans ((b2.mono (by omega)).trans (b3.mono (by omega)))))
 ·rw [World.size_alloc, s3]
theorem prog_any (A : Option Addr) (c : Nat) (l : List Tk) (w : World) (hC : Kd.C kTk w A l.length l) (hl : l.length ≤ 4194304) :
  Calls Tryz.prog 6 #[.slice A l.length c] w fun e w' => ProgPost w l e w' := by
 obtain ⟨V, hV, k0, k1, k2, hS, hsz⟩ := pr_start A c l w hC hl
 obtain ⟨n, r, hr, hq⟩ := prog_run l hl
 have hpr := g_program hS hr (prog_len hr)
 rw [hq] at hpr
 unfold progR at hpr
 have hme := SAt.below hS
 have HV := zh hV
 have H0 := zh k0
 have H1 := zh k1
 have H2 := zh k2
 have HS := zh hS
 have HSZ := zh hsz
 have HPR := zh hpr
 have HBV := zh hme
 have HL := zh hl
 clear hV k0 k1 k2 hS hsz hpr hme hr hq hC hl
 have hmf : ∀ (fn : Fn) (first cap : Array Value) (w : World), (Instr.makeFunc fn first cap).run Tryz.prog w = .ok (.func fn first cap) w := fun _ _ _ _ => rfl
 go_enter_defers Tryz.func6, Tryz.ntmps6
 go_upto_region 3 with (fail)
 rw [HV.out]
 by_cases he : (allP newPar l).2.1 = 0
 ·have HE := zh he
  have HPR2 := zh (by have h := HPR.out; rw [if_pos he] at h; exact h)
  clear HPR he
  go_wp2_with (first | (go_at_call 18; (with_reducible refine cM HPR2.out ?_); rintro e w2 ⟨rfl, ve2, hs2, hm2⟩; obtain ⟨A2, ca2, hv2, hc2, hkc⟩ := evs_any hs2.row; subst hv2; obtain ⟨-, -, -, q3⟩ := hs2.cell; have HBD := zh (Tr.build_any A2 _ ca2 _ w2 hkc rfl (prog_evs HL.out HE.out)); have Z0 := zh (mkeep hm2 HS.out H0.out); have Z1 := zh (mkeep hm2 HS.out H1.out); have Z2 := zh (mkeep hm2 HS.out H2.out); have HB2 := zh hs2.below; have HP2 := zh (blk_lt hs2.box); clear hs2 hm2 hkc hc2) | (go_at_call 19; (with_reducible refine cM HBD.out ?_); rintro e w3 ⟨v3, rfl, ho3, hb3⟩; obtain ⟨A3, ca3, hv3⟩ := owns_slice ho3; subst hv3; have HO3 := zh ho3; have HB3 := zh (HB2.out.trans (hb3.mono HB2.out.size)); have Y0 := zh ((hb3.block _ (blk_lt Z0.out)).trans Z0.out); have Y1 := zh ((hb3.block _ (blk_lt Z1.out)).trans Z1.out); have Y2 := zh ((hb3.block _ (blk_lt Z2.out)).trans Z2.out); clear ho3 hb3) | ((with_reducible refine gate_ (.store 32 (.tmp 2) (.tmp 18)) rfl ?_); refine Tr.wl_box rfl rfl _ _ _ rfl (ndAgg (Tr.bld (allP newPar l).1).1 (.slice A3 (Tr.bld (allP newPar l).1).1.f2.length ca3)) (Tr.ndCells (Tr.bld (allP newPar l).1).1.f0 (Tr.bld (allP newPar l).1).1.f1 (.slice A3 (Tr.bld (allP newPar l).1).1.f2.length ca3)) rfl rfl rfl Tr.infoNd8 (Tr.ndCells_one _ _ rfl) Y0.out rfl ?_; intro w4 h4 hu4; have X0 := zh h4; have U4 := zh hu4; obtain ⟨y0, y1, y2, y3, y4, y5, y6, y7⟩ := Tr.cells8 h4; clear h4 hu4) | ((with_reducible refine gate_ (.store 32 (.tmp 2) (.tmp 20)) rfl ?_); refine Tr.wl_box rfl rfl _ _ _ rfl (ndAgg (Tr.bld (allP newPar l).1).1 (.slice A3 (Tr.bld (allP newPar l).1).1.f2.length ca3)) (Tr.ndCells (Tr.bld (allP newPar l).1).1.f0 (Tr.bld (allP newPar l).1).1.f1 (.slice A3 (Tr.bld (allP newPar l).1).1.f2.length ca3)) rfl rfl rfl Tr.infoNd8 (Tr.ndCells_one _ _ rfl) X0.out rfl ?_; intro w5 h5 hu5; have V0 := zh h5; have U5 := zh hu5; have V1 := zh ((hu5.far _ (by omega)).trans ((U4.out.far _ (by omega)).trans Y1.out)); have V2 := zh ((hu5.far _ (by omega)).trans ((U4.out.far _ (by omega)).trans Y2.out)); clear h5 hu5) | ((with_reducible refine gate_ (.store 33 (.tmp 3) (.const (.int .i64 0))) rfl ?_); refine Tr.wl_box rfl rfl _ _ _ rfl (.int .i64 0) [.int .i64 0] rfl rfl rfl (by kernel_rfl) (fun v hv => by rw [List.mem_singleton.1 hv]; rfl) V1.out rfl ?_; intro w6 h6 hu6; have U6 := zh hu6; have T1 := zh h6; have T0 := zh ((hu6.far _ (by omega)).trans V0.out); have T2 := zh ((hu6.far _ (by omega)).trans V2.out); clear h6 hu6) | ((with_reducible refine gate_ (.store 3 (.tmp 4) (.const (.int .i64 0))) rfl ?_); refine Tr.wl_box rfl rfl _ _ _ rfl (.int .i64 0) [.int .i64 0] rfl rfl rfl (by kernel_rfl) (fun v hv => by rw [List.mem_singleton.1 hv]; rfl) T2.out rfl ?_; intro w7 h7 hu7; have U7 := zh hu7; have R2 := zh h7; have R0 := zh ((hu7.far _ (by omega)).trans T0.out); have R1 := zh ((hu7.far _ (by omega)).trans T1.out); clear h7 hu7))
  refine leaves_cons (f := 17) (args := #[.pointer (some ⟨w.heap.size, 0, none⟩), .pointer (some ⟨w.heap.size + 1, 0, none⟩), .pointer (some ⟨w.heap.size + 1 + 1, 0, none⟩)]) (by simp) (by simp [go_sem]) ?_
  refine (catch_idle _ _ _ _).mono ?_
  rintro e u' w8 ⟨rfl, rfl, rfl⟩
  have e1 : w8.cell? ⟨w.heap.size + 1, 0, none⟩ = some (.int .i64 0) := cR 0 R1.out
  have e2 : w8.cell? ⟨w.heap.size + 1 + 1, 0, none⟩ = some (.int .i64 0) := cR 0 R2.out
  obtain ⟨x0, x1, x2, x3, x4, x5, x6, x7⟩ := Tr.cells8 R0.out
  simp only [settle, Leaves]
  refine ⟨.tuple #[ndAgg (Tr.bld (allP newPar l).1).1 (.slice A3 (Tr.bld (allP newPar l).1).1.f2.length ca3), .int .i64 0, .int .i64 0], ?_, ?_⟩
  ·simp [results, Tryz.results6, go_sem, x0, x1, x2, x3, x4, x5, x6, x7, e1, e2]
  ·have h1 : prNd l = (Tr.bld (allP newPar l).1).1 := by unfold prNd; rw [if_pos HE.out]
   have h2 : progE l = 0 := HE.out
   have h3 : progA l = 0 := by unfold progA; rw [if_pos HE.out]
   refine ⟨.slice A3 (Tr.bld (allP newPar l).1).1.f2.length ca3, ?_, ?_, ?_⟩
   ·rw [h1, h2, h3]; rfl
   ·rw [h1]
    have hq := HP2.out
    exact Tr.ownS_lower (by omega) (Tr.ownS_upd (Tr.ownS_upd (Tr.ownS_upd (Tr.ownS_upd HO3.out U4.out (by omega)) U5.out (by omega)) U6.out (by omega)) U7.out (by omega))
   ·exact U7.out.below (U6.out.below (U5.out.below (U4.out.below HB3.out (Nat.le_refl _)) (Nat.le_refl _)) (by omega)) (by omega)
 ·have HE := zh he
  have HPR2 := zh (by have h := HPR.out; rw [if_neg he] at h; exact h)
  clear HPR he
  go_wp2_with (first | (go_at_call 18; (with_reducible refine cM HPR2.out ?_); rintro e w2 ⟨rfl, ve2, hm2⟩; have Z0 := zh (mkeep hm2 HS.out H0.out); have Z1 := zh (mkeep hm2 HS.out H1.out); have Z2 := zh (mkeep hm2 HS.out H2.out); have HB2 := zh (mout hm2 HS.out); clear hm2))
  refine leaves_cons (f := 17) (args := #[.pointer (some ⟨w.heap.size, 0, none⟩), .pointer (some ⟨w.heap.size + 1, 0, none⟩), .pointer (some ⟨w.heap.size + 1 + 1, 0, none⟩)]) (by simp) (by simp [go_sem]) ?_
  refine (catch_wrong _ _ _ _ _ _ _ _ _ Z0.out rfl Z1.out Z2.out (by omega)).mono ?_
  obtain ⟨V8, hV8, r0, r1, r2, hb8⟩ := wrong_after Z0.out rfl Z1.out Z2.out (by omega) (allP newPar l).2.1 (allP newPar l).2.2 HB2.out (Nat.le_refl _) (by omega) (by omega)
  rw [hV8]
  rintro e u' w8 ⟨rfl, rfl, rfl⟩
  clear hV8
  have e1 : w8.cell? ⟨w.heap.size + 1, 0, none⟩ = some (.int .i64 (allP newPar l).2.1) := cR 0 r1
  have e2 : w8.cell? ⟨w.heap.size + 1 + 1, 0, none⟩ = some (.int .i64 (allP newPar l).2.2) := cR 0 r2
  obtain ⟨x0, x1, x2, x3, x4, x5, x6, x7⟩ := Tr.cells8 r0
  simp only [settle, Leaves, List.dropWhile_nil]
  refine ⟨.tuple #[ndAgg Tr.noNd (.slice none 0 0), .int .i64 (allP newPar l).2.1, .int .i64 (allP newPar l).2.2], ?_, ?_⟩
  ·simp [results, Tryz.results6, go_sem, x0, x1, x2, x3, x4, x5, x6, x7, e1, e2, Tr.noNd, Tr.noTk]
  ·have h1 : prNd l = Tr.noNd := by unfold prNd; rw [if_neg HE.out]
   have h3 : progA l = (allP newPar l).2.2 := by unfold progA; rw [if_neg HE.out]
   refine ⟨.slice none 0 0, ?_, ?_, hb8⟩
   ·rw [h1, h3]; rfl
   ·rw [h1]; exact Tr.ownS_nil _ _ _
theorem akey_any (s : ByteArray) (w : World) : Calls Tryz.prog 14 #[.string s] w fun e w' => e = .returned (.agg #[.int .u8 2, .string s, .int .i64 0, .int .i64 0, .int .i64 0, .int .i64 0]) ∧ Below w.heap.size w w' := PSyntaxProgram.colophonlaw14_key.calls s 2 s 0 0 0 0 w rfl
theorem asign_any (s : ByteArray) (w : World) : Calls Tryz.prog 16 #[.string s] w fun e w' => e = .returned (.agg #[.int .u8 6, .string s, .int .i64 0, .int .i64 0, .int .i64 0, .int .i64 0]) ∧ Below w.heap.size w w' := PSyntaxProgram.colophonlaw14_sign.calls s 6 s 0 0 0 0 w rfl
theorem aname_any (s : ByteArray) (w : World) : Calls Tryz.prog 15 #[.string s] w fun e w' => e = .returned (.agg #[.int .u8 1, .string s, .int .i64 0, .int .i64 0, .int .i64 0, .int .i64 0]) ∧ Below w.heap.size w w' := PSyntaxProgram.colophonlaw14_name.calls s 1 s 0 0 0 0 w rfl
def awkL : List Tk := [⟨2, ⟨#[112, 114, 111, 103, 114, 97, 109]⟩, ⟨0, 0, 0⟩, 0⟩, ⟨1, ⟨#[112]⟩, ⟨0, 0, 0⟩, 0⟩, ⟨6, ⟨#[59]⟩, ⟨0, 0, 0⟩, 0⟩, ⟨2, ⟨#[98, 101, 103, 105, 110]⟩, ⟨0, 0, 0⟩, 0⟩, ⟨2, ⟨#[115, 107, 105, 112]⟩, ⟨0, 0, 0⟩, 0⟩, ⟨2, ⟨#[101, 110, 100]⟩, ⟨0, 0, 0⟩, 0⟩, ⟨6, ⟨#[46]⟩, ⟨0, 0, 0⟩, 0⟩]
def tkCells (t : Tk) : List Value := [.int .u8 t.f0, .string t.f1, .int .i64 t.f2.f0, .int .i64 t.f2.f1, .int .i64 t.f2.f2, .int .i64 t.f3]
theorem aw_1 : (progE awkL == 0 && (prNd awkL).f0 == 1 && (prNd awkL).f2.length == 5) = true := by kernel_rfl
theorem aw_2 : (progE (awkL.drop 1) == 120 && progA (awkL.drop 1) == 0) = true := by kernel_rfl
theorem aw_3 : (progE (awkL.take 3) == 121 && progA (awkL.take 3) == 3) = true := by kernel_rfl
theorem progA_ok {l : List Tk} (h : progE l = 0) : progA l = 0 := by unfold progA; unfold progE at h; rw [if_pos h]
theorem prNd_bad {l : List Tk} (h : progE l ≠ 0) : prNd l = Tr.noNd := by unfold prNd; unfold progE at h; rw [if_neg h]
theorem aw_C {V : World} {g : Nat} (h : V.heap[g]? = some (.cells (awkL.flatMap tkCells).toArray 28 (0, 0))) : Kd.C kTk V (some ⟨g, 0, none⟩) awkL.length awkL := by
 have hrow : V.ownsRow 0 28 6 (.slice (some ⟨g, 0, none⟩) 7 7) 7 (awkL.flatMap tkCells) := ⟨rfl, .inr ⟨g, 7, _, rfl, Nat.zero_le _, h, Nat.le_refl _, by decide, rfl, rfl⟩⟩
 have hreps : Reps (kTk.K V) 6 awkL (awkL.flatMap tkCells) := by
  have key : ∀ l : List Tk, Reps (kTk.K V) 6 l (l.flatMap tkCells) := fun l => by
   induction l with
   | nil => exact Reps.none _ _
   | cons x l ih =>
    have := Kd.reps_append ((Reps.none (kTk.K V) 6).snoc (PSyntaxProgram.k28_mk V x) rfl) ih
    rw [List.nil_append, List.nil_append, List.singleton_append] at this
    exact this
  exact key _
 obtain ⟨A, c1, hv, hr⟩ := own_reads_row (size := 6) hrow hreps rfl
 injection hv with h1 h2 h3
 subst h1
 exact hr
theorem prog_1 {V : World} {g : Nat} (h : Kd.C kTk V (some ⟨g, 0, none⟩) awkL.length awkL) : Calls Tryz.prog 6 #[.slice (some ⟨g, 0, none⟩) 7 7] V fun e w' => ∃ (x : Tr.Nd) (A : Option Addr) (c : Nat), e = .returned (.tuple #[ndAgg x (.slice A x.f2.length c), .int .i64 0, .int .i64 0]) ∧ x.f0 = 1 ∧ x.f2.length = 5 ∧ Below V.heap.size V w' := by
 refine (prog_any (some ⟨g, 0, none⟩) 7 awkL V h (by decide)).mono ?_
 rintro e w' ⟨v, rfl, ho, hb⟩
 obtain ⟨A, c, rfl⟩ := owns_slice ho
 have h1 := aw_1
 simp only [Bool.and_eq_true, beq_iff_eq] at h1
 refine ⟨prNd awkL, A, c, ?_, h1.1.2, h1.2, hb⟩
 rw [progA_ok h1.1.1, h1.1.1]
 rfl
theorem prog_2 {V : World} {g : Nat} (h : Kd.C kTk V (some ⟨g, 0, none⟩) awkL.length awkL) : Calls Tryz.prog 6 #[.slice (some ⟨g, 6, none⟩) 6 6] V fun e w' => ∃ (A : Option Addr) (c : Nat), e = .returned (.tuple #[ndAgg Tr.noNd (.slice A 0 c), .int .i64 120, .int .i64 0]) ∧ Below V.heap.size V w' := by
 have hd := Kd.C_drop (m := 1) (c := 7) h (by decide) (by decide)
 rw [if_neg (by decide)] at hd
 refine (prog_any (some ⟨g, 6, none⟩) 6 (awkL.drop 1) V hd (by decide)).mono ?_
 rintro e w' ⟨v, rfl, ho, hb⟩
 have h1 := aw_2
 simp only [Bool.and_eq_true, beq_iff_eq] at h1
 rw [prNd_bad (by rw [h1.1]; decide)] at ho ⊢
 obtain ⟨A, c, rfl⟩ := owns_slice ho
 refine ⟨A, c, ?_, hb⟩
 rw [h1.1, h1.2]
 rfl
theorem prog_3 {V : World} {g : Nat} (h : Kd.C kTk V (some ⟨g, 0, none⟩) awkL.length awkL) : Calls Tryz.prog 6 #[.slice (some ⟨g, 0, none⟩) 3 7] V fun e w' => ∃ (A : Option Addr) (c : Nat), e = .returned (.tuple #[ndAgg Tr.noNd (.slice A 0 c), .int .i64 121, .int .i64 3]) ∧ Below V.heap.size V w' := by
 have hd := Kd.C_take (m := 3) h (by decide)
 refine (prog_any (some ⟨g, 0, none⟩) 7 (awkL.take 3) V hd (by decide)).mono ?_
 rintro e w' ⟨v, rfl, ho, hb⟩
 have h1 := aw_3
 simp only [Bool.and_eq_true, beq_iff_eq] at h1
 rw [prNd_bad (by rw [h1.1]; decide)] at ho ⊢
 obtain ⟨A, c, rfl⟩ := owns_slice ho
 refine ⟨A, c, ?_, hb⟩
 rw [h1.1, h1.2]
 rfl
theorem box_up {w3 w4 : World} {o : Obj} (h : Tr.Upd w3.heap.size (w3.alloc o) w4) : Below w3.heap.size w3 w4 := h.below ((Below.refl w3.heap.size w3).alloc (Nat.le_refl _) o) (Nat.le_refl _)
theorem awake_any (w : World) : Calls Tryz.prog 5 #[] w fun e w' => e = .returned (.bool true) ∧ Below w.heap.size w w' := by
 have HB := zh (Below.refl w.heap.size w)
 go_enter Tryz.func5, Tryz.ntmps5
 go_upto_region 2 with (first
  | (go_at_call 14; (with_reducible refine cM (akey_any _ _) ?_); rintro e w9 ⟨rfl, hb⟩; replace HB := zh (HB.out.trans (hb.mono HB.out.size)); clear hb)
  | (go_at_call 16; (with_reducible refine cM (asign_any _ _) ?_); rintro e w9 ⟨rfl, hb⟩; replace HB := zh (HB.out.trans (hb.mono HB.out.size)); clear hb)
  | (go_at_call 15; (with_reducible refine cM (aname_any _ _) ?_); rintro e w9 ⟨rfl, hb⟩; replace HB := zh (HB.out.trans (hb.mono HB.out.size)); clear hb))
 obtain ⟨W2, hW2⟩ : ∃ V, w9.alloc (.cells (awkL.flatMap tkCells).toArray 28) = V := ⟨_, rfl⟩
 have hg2 : W2.heap[w9.heap.size]? = some (.cells (awkL.flatMap tkCells).toArray 28 (0, 0)) := by rw [← hW2]; exact World.alloc_heap_new _ _
 have hb2 : Below w9.heap.size w9 W2 := by rw [← hW2]; exact (Below.refl _ _).alloc (Nat.le_refl _) _
 replace hW2 : w9.alloc (.cells #[.int .u8 2, .string ⟨#[112, 114, 111, 103, 114, 97, 109]⟩, .int .i64 0, .int .i64 0, .int .i64 0, .int .i64 0, .int .u8 1, .string ⟨#[112]⟩, .int .i64 0, .int .i64 0, .int .i64 0, .int .i64 0, .int .u8 6, .string ⟨#[59]⟩, .int .i64 0, .int .i64 0, .int .i64 0, .int .i64 0, .int .u8 2, .string ⟨#[98, 101, 103, 105, 110]⟩, .int .i64 0, .int .i64 0, .int .i64 0, .int .i64 0, .int .u8 2, .string ⟨#[115, 107, 105, 112]⟩, .int .i64 0, .int .i64 0, .int .i64 0, .int .i64 0, .int .u8 2, .string ⟨#[101, 110, 100]⟩, .int .i64 0, .int .i64 0, .int .i64 0, .int .i64 0, .int .u8 6, .string ⟨#[46]⟩, .int .i64 0, .int .i64 0, .int .i64 0, .int .i64 0] 28) = W2 := hW2
 rw [hW2]
 clear hW2
 have HB2 := zh (HB.out.trans (hb2.mono HB.out.size))
 have HC2 := zh (aw_C hg2)
 clear hg2 hb2 HB
 obtain ⟨g, hg⟩ : ∃ g, w9.heap.size = g := ⟨_, rfl⟩
 rw [hg] at HC2 ⊢
 clear hg
 have HP1 := zh (prog_1 HC2.out)
 go_upto_region 3 with (first
  | (go_at_call 6; (with_reducible refine cM HP1.out ?_); rintro e w3 ⟨x1, A1, ca1, rfl, hx0, hx2, hb⟩; have HX0 := zh hx0; have HX2 := zh hx2; have HB3 := zh (HB2.out.trans (hb.mono HB2.out.size)); have HC3 := zh (Kd.C_below HC2.out hb); clear hb hx0 hx2)
  | ((with_reducible refine gate_ (.store 32 (.tmp 2) (.tmp 22)) rfl ?_); refine Tr.wl_box rfl rfl _ _ _ rfl (ndAgg x1 (.slice A1 x1.f2.length ca1)) (Tr.ndCells x1.f0 x1.f1 (.slice A1 x1.f2.length ca1)) rfl rfl rfl Tr.infoNd8 (Tr.ndCells_one _ _ rfl) (World.alloc_heap_new w3 _) rfl ?_; intro w4 h4 hu4; have X4 := zh h4; have U4 := zh hu4; clear h4 hu4))
 have hu4 := box_up U4.out
 have HB4 := zh (HB3.out.trans (hu4.mono HB3.out.size))
 have HC4 := zh (Kd.C_below HC3.out hu4)
 have HP2 := zh (prog_2 HC4.out)
 obtain ⟨g2, hg2⟩ : ∃ g2, w3.heap.size = g2 := ⟨_, rfl⟩
 rw [hg2] at X4 ⊢
 clear hu4 U4 HP1 HC2 HC3 HB2 HB3 hg2
 go_upto_region 4 with (first
  | (go_at_call 6; (with_reducible refine cM HP2.out ?_); rintro e w5 ⟨A2, ca2, rfl, hb⟩; have HB5 := zh (HB4.out.trans (hb.mono HB4.out.size)); have HC5 := zh (Kd.C_below HC4.out hb); have X5 := zh ((hb.block _ (blk_lt X4.out)).trans X4.out); clear hb)
  | ((with_reducible refine gate_ (.store 32 (.tmp 5) (.tmp 29)) rfl ?_); refine Tr.wl_box rfl rfl _ _ _ rfl (ndAgg Tr.noNd (.slice A2 0 ca2)) (Tr.ndCells 0 Tr.noTk (.slice A2 0 ca2)) rfl rfl rfl Tr.infoNd8 (Tr.ndCells_one _ _ rfl) (World.alloc_heap_new w5 _) rfl ?_; intro w6 h6 hu6; have X6 := zh h6; have U6 := zh hu6; clear h6 hu6))
 have hu6 := box_up U6.out
 have HB6 := zh (HB5.out.trans (hu6.mono HB5.out.size))
 have HC6 := zh (Kd.C_below HC5.out hu6)
 have Y6 := zh ((hu6.block _ (blk_lt X5.out)).trans X5.out)
 have HP3 := zh (prog_3 HC6.out)
 obtain ⟨g5, hg5⟩ : ∃ g5, w5.heap.size = g5 := ⟨_, rfl⟩
 rw [hg5] at X6 ⊢
 clear hu6 U6 HP2 HC4 HC5 HB4 HB5 hg5 X4 X5
 go_upto_region 5 with (first
  | (go_at_call 6; (with_reducible refine cM HP3.out ?_); rintro e w7 ⟨A3, ca3, rfl, hb⟩; have HB7 := zh (HB6.out.trans (hb.mono HB6.out.size)); have X7 := zh ((hb.block _ (blk_lt X6.out)).trans X6.out); have Y7 := zh ((hb.block _ (blk_lt Y6.out)).trans Y6.out); clear hb)
  | ((with_reducible refine gate_ (.store 32 (.tmp 8) (.tmp 36)) rfl ?_); refine Tr.wl_box rfl rfl _ _ _ rfl (ndAgg Tr.noNd (.slice A3 0 ca3)) (Tr.ndCells 0 Tr.noTk (.slice A3 0 ca3)) rfl rfl rfl Tr.infoNd8 (Tr.ndCells_one _ _ rfl) (World.alloc_heap_new w7 _) rfl ?_; intro w8 h8 hu8; have U8 := zh hu8; clear h8 hu8))
 have hu8 := box_up U8.out
 have HB8 := zh (HB7.out.trans (hu8.mono HB7.out.size))
 have k0 := (Tr.cells8 ((hu8.block _ (blk_lt Y7.out)).trans Y7.out)).1
 have k7 := (Tr.cells8 ((hu8.block _ (blk_lt Y7.out)).trans Y7.out)).2.2.2.2.2.2.2
 have m0 := (Tr.cells8 ((hu8.block _ (blk_lt X7.out)).trans X7.out)).1
 rw [HX0.out] at k0
 rw [HX2.out] at k7
 clear hu8 U8 HP3 HC6 HB6 HB7 X6 X7 Y6 Y7
 go_wp2
 go_ret
 exact ⟨rfl, HB8.out⟩
theorem infoTk : (Tryz.prog.info? 28).map (fun i => (i.zero, i.size, i.bytes)) = some (some (.agg #[.int .u8 0, .string ⟨#[]⟩, .int .i64 0, .int .i64 0, .int .i64 0, .int .i64 0]), 6, 56) := by kernel_rfl
theorem tkCells_one (t : Tk) : ∀ v ∈ tkCells t, v.oneCell' = true := by
 intro v hv; simp only [tkCells, List.mem_cons, List.not_mem_nil, or_false] at hv; rcases hv with rfl | rfl | rfl | rfl | rfl | rfl <;> rfl
theorem reps_tk (V : World) (l : List Tk) : Reps (kTk.K V) 6 l (l.flatMap tkCells) := by
 induction l with
 | nil => exact Reps.none _ _
 | cons x l ih =>
  have := Kd.reps_append ((Reps.none (kTk.K V) 6).snoc (PSyntaxProgram.k28_mk V x) rfl) ih
  rw [List.nil_append, List.nil_append, List.singleton_append] at this
  exact this
theorem toks_C {V : World} {base : Nat} {v : Value} {l : List Tk} (h : V.ownsRow base 28 6 v l.length (l.flatMap tkCells)) : ∃ A c, v = .slice A l.length c ∧ l.length ≤ c ∧ Kd.C kTk V A l.length l := by
 obtain ⟨A, c, hv, hr⟩ := own_reads_row (size := 6) h (reps_tk V l) rfl
 obtain ⟨A2, c2, hv2, hc⟩ := row_slice h
 subst hv
 injection hv2 with h1 h2 h3
 subst h3
 exact ⟨A, _, rfl, hc, hr⟩
theorem wl_appN {ops : Array Oper} {rest : List Oper} {o : Oper} {a : Act} {Q : Exit → Act → World → Prop} {W : World} {e t : TypeId} {z : Value} {size bytes : Nat} (hinfo : (Tryz.prog.info? e).map (fun i => (i.zero, i.size, i.bytes)) = some (some z, size, bytes)) (hund : Tryz.prog.underlying t = some (.slice e)) (hz : z.cells.size = size) (hpos : 0 < size) (hbt : 0 < bytes)
  (hgd : o.guard = none) (s x : Operand) (ho : o.op = .call { callee := .builtin .append, args := #[s, x], argTypes := #[t, t] }) (base : Nat) {u : Value} {n : Nat} {xs : List Value} (hs : a.eval s = u) (hown : W.ownsRow base e size u n xs)
  {v : Value} {m b2 : Nat} {news : List Value} (hx : a.eval x = v) (hrow : W.ownsRow b2 e size v m news) (h1 : ∀ u ∈ news, u.oneCell' = true) (hl : (n + m) * bytes ≤ 140737488355328) (hbase : base ≤ W.heap.size)
  (h : ∀ v1 w1, w1.ownsRow base e size v1 (n + m) (xs ++ news) → W.grownBy w1 u.ownBlock → (v1.ownBlock = u.ownBlock ∨ ∀ g, v1.ownBlock = some g → W.heap.size ≤ g) → wpList Tryz.prog ops Q rest (a.put o.dst v1) w1) : wpList Tryz.prog ops Q (o :: rest) a W := by
 obtain ⟨i0, hi, hzz⟩ := Option.map_eq_some_iff.1 hinfo
 simp only [Prod.mk.injEq] at hzz
 obtain ⟨hz0, hz1, hz2⟩ := hzz
 have hmm : n + m ≤ 140737488355328 := Nat.le_trans (Nat.le_mul_of_pos_right _ hbt) hl
 refine wpList_plain hgd fun K hK => ?_
 have hcase : (v = .slice none 0 0 ∧ m = 0) ∨ ∃ g cap, v = .slice (some ⟨g, 0, none⟩) m cap := by
  rcases hrow.2 with h | ⟨g, cap, cur, h, _⟩
  ·exact .inl h
  ·exact .inr ⟨g, cap, h⟩
 rcases hcase with ⟨rfl, rfl⟩ | ⟨g, cap, rfl⟩
 ·have hnil : news = [] := by
   have := hrow.1
   simpa using this
  subst hnil
  have hr := run_append_owned_none (P := Tryz.prog) W base t o.type e i0 size hund hi u n xs hown
  unfold Oper.wp execOp
  simp only [ho, resolve, invoke, builtin, Sem.run_bind, Sem.run_pure, Result.andThen_ok, List.map_toArray, List.map_cons, List.map_nil, hs, hx, hr]
  exact hK _ _ (h u W (by rw [List.append_nil]; exact hown) ⟨rfl, rfl, rfl, Nat.le_refl _, fun _ _ _ => rfl⟩ (.inl rfl))
 ·obtain ⟨v1, w1, hr, ho2, hg, -, hat⟩ := run_append_own_at (P := Tryz.prog) W base t o.type e i0 _ size bytes hund hi hz0 hz1 hz2 hz hpos u n xs hown ⟨g, 0, none⟩ m cap news hrow.1 (row_news hrow) h1 (by simp only [maxLen]; omega) hl hbase
  unfold Oper.wp execOp
  simp only [ho, resolve, invoke, builtin, Sem.run_bind, Sem.run_pure, Result.andThen_ok, List.map_toArray, List.map_cons, List.map_nil, hs, hx, hr]
  refine hK _ _ (h v1 w1 ho2 hg ?_)
  rcases hat with hat | hat
  ·exact .inl hat
  ·exact .inr (fun k hk => by rw [hat] at hk; cases hk; exact Nat.le_refl _)
def posn : Nat → List Tk → List Nat
 | _, [] => []
 | k, t :: r => if isNote t then posn (k + 1) r else k :: posn (k + 1) r
def noNotes (l : List Tk) : List Tk := l.filter (fun t => !isNote t)
theorem noNotes_cons (t : Tk) (r : List Tk) : noNotes (t :: r) = if isNote t then noNotes r else t :: noNotes r := by
 unfold noNotes
 rw [List.filter_cons]
 cases isNote t <;> rfl
def refEv : List (Nat × Nat) → List Tk → List (List (Nat × Nat)) → List Ev
 | now, [], _ => betw now []
 | now, t :: r, ps => if isNote t then noteE t :: refEv now r ps else betw now ps.head?.toList.flatten ++ leafE t :: refEv ps.head?.toList.flatten r ps.tail
theorem ref_all (N : Nat) : ∀ (l : List Tk) (P : Par) (op : List Nat) (p' : Par) (s : RS) (k : Nat), PInv P op → p'.todo = P.todo → p'.depth = preD P → s.e = 0 → s.path.map Prod.fst = (fins P.todo).reverse → (∀ x ∈ s.path, x.2 ≤ s.ser) →
  (rdRun true N p' s (noNotes l)).e = (allP P l).2.1 ∧ ((allP P l).2.1 = 121 → (allP P l).2.2 = l.length) ∧
  ((allP P l).2.1 ≠ 0 → (allP P l).2.1 ≠ 121 → s.i ≤ (rdRun true N p' s (noNotes l)).i ∧ (posn k l)[(rdRun true N p' s (noNotes l)).i - s.i]? = some (k + (allP P l).2.2)) ∧
  ((allP P l).2.1 = 0 → ∃ ps, (rdRun true N p' s (noNotes l)).paths = s.paths ++ ps ∧ ps.length = (noNotes l).length ∧ (∀ q ∈ ps, q.length ≤ 1001) ∧ (allP P l).1 = preE P ++ refEv s.path l ps)
 | [], P, op, p', s, k, hP, ht, hd, he, hk, hs => by
  have hcl : closeP P = if P.todo.length ≠ 1 then ([], 121, { P with closed := true, wrong := 121 }) else ([evOf (3, 1)], 0, { P with closed := true, depth := P.depth - 1 }) := by
   unfold closeP
   rw [hP.closed, hP.wrong]
   simp
  show (rdRun true N p' s []).e = (closeP P).2.1 ∧ ((closeP P).2.1 = 121 → 0 = 0) ∧ ((closeP P).2.1 ≠ 0 → (closeP P).2.1 ≠ 121 → _) ∧ ((closeP P).2.1 = 0 → ∃ ps, (rdRun true N p' s []).paths = s.paths ++ ps ∧ ps.length = 0 ∧ _ ∧ (closeP P).1 = preE P ++ refEv s.path [] ps)
  rw [rdRun, ht]
  by_cases h1 : P.todo.length = 1
  ·rw [if_neg (by simp [h1])] at hcl
   rw [if_pos h1, hcl]
   have hb : P.begun = true := by
    cases hb : P.begun with
    | true => rfl
    | false => exact absurd h1 (hP.fresh hb)
   obtain ⟨l, hl⟩ := hP.lastf
   have hl0 : l = [] := by
    rw [hl, List.length_append] at h1
    exact List.length_eq_zero_iff.1 (by simpa using h1)
   rw [hl, hl0] at hk
   obtain ⟨z, hz⟩ : ∃ z, s.path = [(1, z)] := by
    match s.path, hk with
    | [(a, z)], hk => exact ⟨z, by simp [fins] at hk; rw [hk]⟩
    | [], hk => simp [fins] at hk
    | _ :: _ :: _, hk => simp [fins] at hk
   refine ⟨he, fun _ => rfl, fun h => absurd rfl h, fun _ => ⟨[], (List.append_nil _).symm, rfl, fun q hq => (by cases hq), ?_⟩⟩
   unfold preE
   rw [if_pos hb, hz]
   rfl
  ·rw [if_pos h1] at hcl
   rw [if_neg h1, hcl]
   exact ⟨rfl, fun _ => rfl, fun _ h => absurd rfl h, fun h => absurd h (show ¬ ((121 : Int) = 0) by decide)⟩
 | t :: r, P, op, p', s, k, hP, ht, hd, he, hk, hs => by
  by_cases hn : isNote t = true
  ·have hput := put_note hP.closed hP.wrong hn
   obtain ⟨op', hP', -, -, -⟩ := put_nest hP t [] (by rw [hput])
   rw [hput] at hP'
   rw [all_cons_ok (by rw [hput]), hput, noNotes_cons, if_pos hn, posn, if_pos hn]
   obtain ⟨i1, i2, i3, i4⟩ := ref_all N r { P with depth := preD P, begun := true } op' p' s (k + 1) hP' ht hd he hk hs
   refine ⟨i1, fun h => by rw [List.length_cons]; dsimp only at h ⊢; rw [i2 h], fun h h2 => ?_, fun h => ?_⟩
   ·obtain ⟨a, b⟩ := i3 h h2
    exact ⟨a, by rw [b]; dsimp only; congr 1; omega⟩
   ·obtain ⟨ps, a, b, b2, c⟩ := i4 h
    refine ⟨ps, a, b, b2, ?_⟩
    dsimp only
    rw [c, refEv, if_pos hn]
    simp [preE]
  ·have hnf : isNote t = false := by simpa using hn
   have hput : put P t = if (token t P.todo (preD P)).1 ≠ 0 then ([], (token t P.todo (preD P)).1, { P with todo := (token t P.todo (preD P)).2.todo, wrong := (token t P.todo (preD P)).1 }) else (preE P ++ (token t P.todo (preD P)).2.evs.map evOf ++ [leafE t], 0, { P with todo := (token t P.todo (preD P)).2.todo, depth := (token t P.todo (preD P)).2.depth, begun := true }) := by
    unfold put
    simp only [hP.closed, Bool.false_eq_true, if_false, hP.wrong, ne_eq, not_true_eq_false, hnf]
   rw [noNotes_cons, if_neg hn, posn, if_neg hn, rdRun, ht, hd]
   obtain ⟨cl, op2, X, a1, a2, -, a4, a5, a8⟩ := token_law t P.todo (preD P)
   by_cases h0 : (token t P.todo (preD P)).1 = 0
   ·rw [if_neg (by rw [h0]; exact fun h => h rfl)] at hput
    rw [if_neg (by rw [h0]; exact fun h => h rfl)]
    obtain ⟨op', hP', hb', -, -⟩ := put_nest hP t [] (by rw [hput])
    rw [hput] at hP'
    rw [all_cons_ok (by rw [hput]), hput]
    obtain ⟨a6, a7⟩ := a5 h0
    have hkk : s.path.map Prod.fst = (cl ++ X).reverse := by rw [hk, a4]
    have hb := betw_evs (op := op2) hs hkk
    obtain ⟨n1, n2⟩ := path_next (op := op2) hs hkk
    rw [← a1] at hb n1 n2
    obtain ⟨i1, i2, i3, i4⟩ := ref_all N r _ op' { p' with todo := (token t P.todo (preD P)).2.todo, depth := (token t P.todo (preD P)).2.depth } (tookR true N s (token t P.todo (preD P)).2.evs) (k + 1) hP' rfl rfl rfl (n2.trans (congrArg List.reverse a6.symm)) n1
    refine ⟨i1, fun h => by rw [List.length_cons]; dsimp only at h ⊢; rw [i2 h], fun h h2 => ?_, fun h => ?_⟩
    ·obtain ⟨a, b⟩ := i3 h h2
     have ha : s.i + 1 ≤ (rdRun true N { p' with todo := (token t P.todo (preD P)).2.todo, depth := (token t P.todo (preD P)).2.depth } (tookR true N s (token t P.todo (preD P)).2.evs) (noNotes r)).i := a
     have hb9 : (posn (k + 1) r)[(rdRun true N { p' with todo := (token t P.todo (preD P)).2.todo, depth := (token t P.todo (preD P)).2.depth } (tookR true N s (token t P.todo (preD P)).2.evs) (noNotes r)).i - (s.i + 1)]? = _ := b
     obtain ⟨j, hj⟩ : ∃ j, (rdRun true N { p' with todo := (token t P.todo (preD P)).2.todo, depth := (token t P.todo (preD P)).2.depth } (tookR true N s (token t P.todo (preD P)).2.evs) (noNotes r)).i = j := ⟨_, rfl⟩
     rw [hj] at ha hb9 ⊢
     refine ⟨by omega, ?_⟩
     rw [show j - s.i = (j - (s.i + 1)) + 1 by omega, List.getElem?_cons_succ, hb9]
     dsimp only
     congr 1; omega
    ·obtain ⟨ps, a, b, b2, c⟩ := i4 h
     refine ⟨(pathR (s.path, s.ser) (token t P.todo (preD P)).2.evs).1 :: ps, ?_, by rw [List.length_cons, List.length_cons, b], ?_, ?_⟩
     ·rw [a]
      show (if true = true ∨ s.i + 1 = N then s.paths ++ [(pathR (s.path, s.ser) (token t P.todo (preD P)).2.evs).1] else s.paths) ++ ps = _
      rw [if_pos (.inl rfl), List.append_assoc]
      rfl
     ·intro q hq
      rcases List.mem_cons.1 hq with rfl | hq
      ·have h3 := hP'.depth
       have h4 := hP'.fins
       have h5 := hP'.most
       dsimp only at h3 h4
       rw [if_pos rfl] at h4
       have := congrArg List.length n2
       rw [List.length_map, List.length_reverse, ← a6, h4] at this
       omega
      ·exact b2 q hq
     ·dsimp only
      rw [c, refEv, if_neg hn]
      show _ = preE P ++ (betw s.path ([(pathR (s.path, s.ser) (token t P.todo (preD P)).2.evs).1].flatten) ++ leafE t :: refEv ([(pathR (s.path, s.ser) (token t P.todo (preD P)).2.evs).1].flatten) r ps)
      rw [List.flatten_singleton, hb]
      simp [preE, tookR]
   ·rw [if_pos h0] at hput
    rw [if_pos h0, all_cons_bad (by rw [hput]; exact h0), hput]
    refine ⟨rfl, fun h => ?_, fun _ _ => ⟨Nat.le_refl _, ?_⟩, fun h => absurd h h0⟩
    ·dsimp only at h; omega
    ·rw [show (badR (token t P.todo (preD P)).1 s).i - s.i = 0 from Nat.sub_self _]
     rfl
theorem ref_prog (l : List Tk) : (readR true (noNotes l)).e = progE l ∧ (progE l = 121 → progA l = l.length) ∧ (progE l ≠ 0 → progE l ≠ 121 → (posn 0 l)[(readR true (noNotes l)).i]? = some (progA l)) ∧
  (progE l = 0 → progA l = 0 ∧ (readR true (noNotes l)).paths.length = (noNotes l).length ∧ (∀ q ∈ (readR true (noNotes l)).paths, q.length ≤ 1001) ∧ (allP newPar l).1 = evOf (1, 1) :: refEv [(1, 1)] l (readR true (noNotes l)).paths) := by
 obtain ⟨h1, h2, h3, h4⟩ := ref_all (noNotes l).length l newPar [] par0 rs0 0 newPar_inv rfl rfl rfl rfl (fun x hx => by rw [List.mem_singleton.1 hx]; exact Nat.le_refl _)
 unfold progE progA readR
 refine ⟨h1, fun h => by rw [if_neg (by rw [h]; decide)]; exact h2 h, fun h h' => ?_, fun h => ⟨if_pos h, ?_⟩⟩
 ·rw [if_neg h]
  have := (h3 h h').2
  rwa [Nat.zero_add] at this
 ·obtain ⟨ps, a, b, b2, c⟩ := h4 h
  rw [show rs0.paths = [] from rfl, List.nil_append] at a
  rw [a]
  exact ⟨b, b2, c⟩
end Go.Proofs.YtmjbpgnjgblnmaaGreat
namespace Go.Proofs.YtmjbpgnjgblnmaaGreat.Tr
open Go.RowKit Go.Proofs.YtmjbpgnjgblnmaaGreatW.PrintWords Go.Proofs.YtmjbpgnjgblnmaaGreatW.PrintLast Go.Proofs.YtmjbpgnjgblnmaaGreatW.PrintMore
theorem kid_at {w : World} {A : Option Addr} {n : Nat} {l : List Nd} (h : Kd.C kNd w A n l) (i : Nat) (x : Nd) (hi : i < n) (hx : l[i]? = some x) : ∃ ad A1 c1, A = some ad ∧ (w.cell? (ad.add (i * 8)) = some (.int .u8 x.f0) ∧ w.cell? ⟨(ad.add (i * 8)).block, (ad.add (i * 8)).off + 1, none⟩ = some (.int .u8 x.f1.f0) ∧ w.cell? ⟨(ad.add (i * 8)).block, (ad.add (i * 8)).off + 2, none⟩ = some (.string x.f1.f1) ∧ w.cell? ⟨(ad.add (i * 8)).block, (ad.add (i * 8)).off + 3, none⟩ = some (.int .i64 x.f1.f2.f0) ∧ w.cell? ⟨(ad.add (i * 8)).block, (ad.add (i * 8)).off + 4, none⟩ = some (.int .i64 x.f1.f2.f1) ∧ w.cell? ⟨(ad.add (i * 8)).block, (ad.add (i * 8)).off + 5, none⟩ = some (.int .i64 x.f1.f2.f2) ∧ w.cell? ⟨(ad.add (i * 8)).block, (ad.add (i * 8)).off + 6, none⟩ = some (.int .i64 x.f1.f3) ∧ w.cell? ⟨(ad.add (i * 8)).block, (ad.add (i * 8)).off + 7, none⟩ = some (.slice A1 x.f2.length c1)) ∧ x.f2.length ≤ c1 ∧ Kd.C kNd w A1 x.f2.length x.f2 := by
 obtain ⟨ad, A1, c1, h0, k0, k1, k2, k3, k4, k5, k6, k7, hl, hc⟩ := PSyntaxProgram.at_T32 h (i : Int) (by omega) (by omega)
 have hr : PSyntaxProgram.rd_T32 l (i : Int) = x := by simp [PSyntaxProgram.rd_T32, List.getD, hx]
 rw [hr] at k0 k1 k2 k3 k4 k5 k6 k7 hl hc
 rw [Int.toNat_natCast] at k0 k1 k2 k3 k4 k5 k6 k7
 exact ⟨ad, A1, c1, h0, ⟨k0, k1, k2, k3, k4, k5, k6, k7⟩, hl, hc⟩
theorem nd_box {W : World} {b : Nat} {v0 v1 v2 v3 v4 v5 v6 v7 : Value} (h : W.heap[b]? = some (.cells #[v0, v1, v2, v3, v4, v5, v6, v7] TN (0, 0))) (V : World) (hV : Below W.heap.size W V) :
  V.cell? ⟨b, 0, none⟩ = some v0 ∧ V.cell? ⟨b, 1, none⟩ = some v1 ∧ V.cell? ⟨b, 2, none⟩ = some v2 ∧ V.cell? ⟨b, 3, none⟩ = some v3 ∧ V.cell? ⟨b, 4, none⟩ = some v4 ∧ V.cell? ⟨b, 5, none⟩ = some v5 ∧ V.cell? ⟨b, 6, none⟩ = some v6 ∧ V.cell? ⟨b, 7, none⟩ = some v7 :=
 ⟨pw_cell_below hV (cR _ h), pw_cell_below hV (cR _ h), pw_cell_below hV (cR _ h), pw_cell_below hV (cR _ h), pw_cell_below hV (cR _ h), pw_cell_below hV (cR _ h), pw_cell_below hV (cR _ h), pw_cell_below hV (cR _ h)⟩
theorem nd_new {W : World} {cs : Array Value} : ∃ V, W.alloc (.cells cs TN) = V ∧ V.heap[W.heap.size]? = some (.cells cs TN (0, 0)) ∧ Below W.heap.size W V ∧ V.heap.size = W.heap.size + 1 :=
 ⟨_, rfl, World.alloc_heap_new _ _, (Below.refl _ W).alloc (Nat.le_refl _) _, World.size_alloc _ _⟩
theorem run_nds : ∀ (l : List Ev) (S : List Nd) (a : Nd), runB l S = some a → nds a ≤ l.length + ndsL S
 | [], S, a, h => by simp [runB] at h
 | e :: l, S, a, h => by
  unfold runB at h
  rw [List.length_cons]
  split at h
  ·split at h
   ·cases h
   ·have := run_nds l _ a h
    simp only [ndsL, nds] at this
    omega
  ·split at h
   ·split at h
    ·cases h
    ·rename_i t S' 
     split at h
     ·have := run_nds l _ a h
      simp only [addKid, ndsL, nds, ndsL_append] at this
      rw [ndsL, nds_eq t]
      omega
     ·cases h
   ·split at h
    ·split at h
     ·cases h
     ·rename_i t S'
      split at h
      ·split at h
       ·split at h
        ·injection h with h
         subst h
         rw [ndsL]; omega
        ·cases h
       ·rename_i u S''
        have := run_nds l _ a h
        simp only [addKid, ndsL, nds, ndsL_append] at this
        rw [ndsL, ndsL, nds_eq u]
        omega
      ·cases h
    ·cases h
end Go.Proofs.YtmjbpgnjgblnmaaGreat.Tr
