/- What the claim stands on: part Qm. -/
import Derived.Test.YtmjbpgnjgblnmaaGreatQl
import Derived.Test.YtmjbpgnjgblnmaaGreatQh
import Derived.Defers
import Derived.Recover
import Derived.Tactics2
import Derived.WideLaws
set_option linter.unusedVariables false
set_option linter.unusedSimpArgs false
set_option maxRecDepth 100000
namespace Go.Proofs.YtmjbpgnjgblnmaaGreat.Tr
open Go.RowKit Go.Proofs.YtmjbpgnjgblnmaaGreatW.PrintWords Go.Proofs.YtmjbpgnjgblnmaaGreatW.PrintLast Go.Proofs.YtmjbpgnjgblnmaaGreatW.PrintMore
set_option maxRecDepth 100000 in
set_option maxHeartbeats 8000000 in
theorem build_any (A : Option Addr) (n c : Nat) (l : List Ev) (w : World) (hr : Kd.C kEv w A n l) (hl : l.length = n) (hn : n ≤ 274877906945) :
  Calls Tryz.prog 19 #[.slice A n c] w fun e w' => BuildPost w l e w' := by
 have HR := Lib.hid hr
 have HL := Lib.hid hl
 have HI0 := Lib.hid (BInv.start w l)
 clear hr hl
 go_enter Tryz.func19, Tryz.ntmps19
 go_wp2
 go_loopw [4, 12] (fun v iv wr => ∃ (i : Nat) (S : List Nd), i ≤ n ∧ iv = .int .i64 i ∧ Hid (BInv w wr l i v S)) (fun _ iv _ => n - (intOf iv).toNat)
 case atStart => exact ⟨0, [], by omega, rfl, HI0⟩
 case round =>
  clear HI0
  obtain ⟨i, S, hi, rfl, H⟩ := hrel
  obtain ⟨Av, cv, hv⟩ := (ownS_C H.out.own)
  have hSl := H.out.small.1
  rw [List.length_reverse] at hv
  obtain ⟨hv, _, _⟩ := hv
  obtain ⟨sl, hsl⟩ : ∃ sl, S.length = sl := ⟨_, rfl⟩
  rw [hsl] at hv hSl
  subst hv
  have HSL := Lib.hid hsl
  clear hsl
  have HBX := Lib.hid H.out.box
  by_cases hlt : i < n
  ·obtain ⟨e, he⟩ : ∃ e, l[i]? = some e := ⟨l[i]'(by rw [HL.out]; exact hlt), List.getElem?_eq_getElem _⟩
   obtain ⟨ad, rfl, e0, e1, e2, e3, e4, e5, e6, e7⟩ := (evAt_of HR.out i e hlt he).cell
   have HDR : Hid (runB (e :: l.drop (i + 1)) S = runB l []) := Lib.hid (by rw [← drop_cons he]; exact H.out.run)
   clear he
   have hb := H.out.out
   replace e0 := pw_cell_below hb e0
   replace e1 := pw_cell_below hb e1
   replace e2 := pw_cell_below hb e2
   replace e3 := pw_cell_below hb e3
   replace e4 := pw_cell_below hb e4
   replace e5 := pw_cell_below hb e5
   replace e6 := pw_cell_below hb e6
   replace e7 := pw_cell_below hb e7
   clear hb
   obtain ⟨k, nd, tk⟩ := e
   obtain ⟨k0, tx, ⟨p0, p1, p2⟩, fd⟩ := tk
   dsimp only at *
   by_cases hk1 : k = 1
   ·subst hk1
    by_cases hz : nd = 0
    ·subst hz
     have hbx : ∀ w1, Below (wr.heap.size + 1) (wr.alloc (.cells #[.int .u8 1, .int .u8 0, .int .u8 k0, .string tx, .int .i64 p0, .int .i64 p1, .int .i64 p2, .int .i64 fd] 48)) w1 → _ := fun w1 h => box8 h
     have hbo := H.out.out
     have hbi := H.out.below
     obtain ⟨W1, hW1⟩ : ∃ W1, wr.alloc (.cells #[.int .u8 1, .int .u8 0, .int .u8 k0, .string tx, .int .i64 p0, .int .i64 p1, .int .i64 p2, .int .i64 fd] 48) = W1 := ⟨_, rfl⟩
     have hs1 : W1.heap.size = wr.heap.size + 1 := by rw [← hW1, World.size_alloc]
     have hb1 : Below wr.heap.size wr W1 := by rw [← hW1]; exact (Below.refl wr.heap.size wr).alloc (Nat.le_refl _) _
     rw [hW1] at hbx
     have HS1 := Lib.hid hs1
     have HBY := Lib.hid hbx
     have HW1 := Lib.hid hW1
     have HB1 := Lib.hid hb1
     have HBI := Lib.hid hbi
     have hbox := Lib.hid (box_later HBX.out hb1)
     have hout := Lib.hid (hbo.trans (hb1.mono hbo.size))
     have HSZ : Hid (w.heap.size + 1 ≤ wr.heap.size) := Lib.hid (by have h := hbi.size; simp only [World.size_alloc] at h; exact h)
     clear hs1 hbx hW1 hb1 hbo hbi
     go_upto_region 7 with (fail)
     rw [HW1.out]
     obtain ⟨y0, y1, y2, y3, y4, y5, y6, y7⟩ := HBY.out W1 (Below.refl _ _)
     have HRN : Hid (runB l [] = none) := Lib.hid (by rw [← HDR.out]; simp [runB])
     go_wp2_with ((with_reducible refine gate_ (.store 32 (.tmp 2) (.tmp 39)) rfl ?_); refine wl_box rfl rfl _ _ _ rfl (.agg zNd.toArray) zNd rfl rfl rfl infoNd8 zNd_one hbox.out rfl ?_; intro w5 h5 hu; have H5 := Lib.hid (hu.below hout.out (Nat.le_refl _)); clear hu; obtain ⟨c0, c1, c2, c3, c4, c5, c6, c7⟩ := cells8 h5; clear h5)
     refine bodyPost_ret (v := .tuple #[.agg zNd.toArray, .int .i64 130]) ?_ rfl (BuildPost.err HRN.out H5.out)
     rw [results_cell_tmp rfl]
     go_simp
     try rfl
    ·have dz : (nd == 0) = false := beq_eq_false_iff_ne.2 hz
     by_cases hs1 : sl = 1000
     ·subst hs1
      have hbx : ∀ w1, Below (wr.heap.size + 1) (wr.alloc (.cells #[.int .u8 1, .int .u8 nd, .int .u8 k0, .string tx, .int .i64 p0, .int .i64 p1, .int .i64 p2, .int .i64 fd] 48)) w1 → _ := fun w1 h => box8 h
      have hbo := H.out.out
      have hbi := H.out.below
      obtain ⟨W1, hW1⟩ : ∃ W1, wr.alloc (.cells #[.int .u8 1, .int .u8 nd, .int .u8 k0, .string tx, .int .i64 p0, .int .i64 p1, .int .i64 p2, .int .i64 fd] 48) = W1 := ⟨_, rfl⟩
      have hs1 : W1.heap.size = wr.heap.size + 1 := by rw [← hW1, World.size_alloc]
      have hb1 : Below wr.heap.size wr W1 := by rw [← hW1]; exact (Below.refl wr.heap.size wr).alloc (Nat.le_refl _) _
      rw [hW1] at hbx
      have HS1 := Lib.hid hs1
      have HBY := Lib.hid hbx
      have HW1 := Lib.hid hW1
      have HB1 := Lib.hid hb1
      have HBI := Lib.hid hbi
      have hbox := Lib.hid (box_later HBX.out hb1)
      have hout := Lib.hid (hbo.trans (hb1.mono hbo.size))
      have HSZ : Hid (w.heap.size + 1 ≤ wr.heap.size) := Lib.hid (by have h := hbi.size; simp only [World.size_alloc] at h; exact h)
      clear hs1 hbx hW1 hb1 hbo hbi
      go_upto_region 7 with (fail)
      rw [HW1.out]
      obtain ⟨y0, y1, y2, y3, y4, y5, y6, y7⟩ := HBY.out W1 (Below.refl _ _)
      have HRN : Hid (runB l [] = none) := Lib.hid (by rw [← HDR.out]; simp [runB, HSL.out])
      go_wp2_with ((with_reducible refine gate_ (.store 32 (.tmp 2) (.tmp 39)) rfl ?_); refine wl_box rfl rfl _ _ _ rfl (.agg zNd.toArray) zNd rfl rfl rfl infoNd8 zNd_one hbox.out rfl ?_; intro w5 h5 hu; have H5 := Lib.hid (hu.below hout.out (Nat.le_refl _)); clear hu; obtain ⟨c0, c1, c2, c3, c4, c5, c6, c7⟩ := cells8 h5; clear h5)
      refine bodyPost_ret (v := .tuple #[.agg zNd.toArray, .int .i64 130]) ?_ rfl (BuildPost.err HRN.out H5.out)
      rw [results_cell_tmp rfl]
      go_simp
      try rfl
     ·by_cases hs0 : sl = 0
      ·subst hs0
       have hi0 : i = 0 := H.out.nz (List.eq_nil_of_length_eq_zero HSL.out)
       have di : decide ((0 : Int) < (i : Int)) = false := decide_eq_false (by omega)
       have di2 : decide (0 < i) = false := decide_eq_false (by omega)
       clear hi0
       have hbx : ∀ w1, Below (wr.heap.size + 1) (wr.alloc (.cells #[.int .u8 1, .int .u8 nd, .int .u8 k0, .string tx, .int .i64 p0, .int .i64 p1, .int .i64 p2, .int .i64 fd] 48)) w1 → _ := fun w1 h => box8 h
       have hbo := H.out.out
       have hbi := H.out.below
       obtain ⟨W1, hW1⟩ : ∃ W1, wr.alloc (.cells #[.int .u8 1, .int .u8 nd, .int .u8 k0, .string tx, .int .i64 p0, .int .i64 p1, .int .i64 p2, .int .i64 fd] 48) = W1 := ⟨_, rfl⟩
       have hs1 : W1.heap.size = wr.heap.size + 1 := by rw [← hW1, World.size_alloc]
       have hb1 : Below wr.heap.size wr W1 := by rw [← hW1]; exact (Below.refl wr.heap.size wr).alloc (Nat.le_refl _) _
       rw [hW1] at hbx
       have HS1 := Lib.hid hs1
       have HBY := Lib.hid hbx
       have HW1 := Lib.hid hW1
       have HB1 := Lib.hid hb1
       have HBI := Lib.hid hbi
       have hbox := Lib.hid (box_later HBX.out hb1)
       have hout := Lib.hid (hbo.trans (hb1.mono hbo.size))
       have HSZ : Hid (w.heap.size + 1 ≤ wr.heap.size) := Lib.hid (by have h := hbi.size; simp only [World.size_alloc] at h; exact h)
       clear hs1 hbx hW1 hb1 hbo hbi
       go_upto_region 7 with (fail)
       rw [HW1.out]
       obtain ⟨y0, y1, y2, y3, y4, y5, y6, y7⟩ := HBY.out W1 (Below.refl _ _)
       have hown := ownS_below H.out.own HB1.out
       obtain ⟨cells, G, r2, r3, r4, r5⟩ := hown
       rw [List.length_reverse, HSL.out] at r2
       have HS7 : Hid (0 ≠ 1000) := Lib.hid (by omega)
       have HP : Hid ((∀ b, (Value.slice Av 0 cv).ownBlock = some b → True ∧ ¬ G b) ∧ OwnL W1 (w.heap.size + 1) S.reverse cells G) := Lib.hid ⟨r4, r3⟩
       have R2 := Lib.hid r2
       have hfit : Hid ((0 + 1) * 88 ≤ 140737488355328) := Lib.hid (by omega)
       have hbs : Hid (w.heap.size + 1 ≤ W1.heap.size) := Lib.hid (by have h1 := HS1.out; have h2 := HSZ.out; omega)
       have hBB : Hid (Below (w.heap.size + 1) (zBox w) W1) := Lib.hid (HBI.out.trans (HB1.out.mono HSZ.out))
       clear r2 r3 r4 r5
       go_wp2_with ((with_reducible refine gate_dst (N := 45) rfl ?_); refine print_append_cells (w0 := zBox w) (w.heap.size + 1) rfl (.tmp 40) (.tmp 44) 30 32 _ 8 88 rfl Tryz.underlying30 infoNd rfl (by decide) (by decide) (.slice Av 0 cv) 0 cells (ndCells nd noTk (.slice none 0 0)) rfl rfl rfl (ndCells_one _ _ rfl) R2.out hBB.out hbs.out hfit.out ?_; intro v1 w4 ho hb4 hg hat; have H4 := Lib.hid (And.intro ho (And.intro hb4 (And.intro hg hat))); clear ho hb4 hg hat)
       have HN : Hid (BInv w w4 l (i + 1) v1 (⟨nd, noTk, []⟩ :: S)) := Lib.hid (by
        obtain ⟨ho, hb4, hg, hat⟩ := H4.out
        have hgs := grown_S (kids := S.reverse) (x := ⟨nd, noTk, []⟩) (F := fun _ => True) (Fx := fun _ => False) (by rw [List.length_reverse, HSL.out]; exact R2.out) HP.out.2 HP.out.1 (fun _ _ => trivial) (kid_own _ _ nd noTk _) (fun _ _ h => h) (by rw [List.length_reverse, HSL.out]; exact ho) hg hat
        refine ⟨?_, H.out.small.push nd (by have := HSL.out; omega), (fun h => by cases h), ?_, hb4⟩
        ·rw [← HDR.out]; simp [runB, hz, HSL.out, HS7.out]
        ·rw [List.reverse_cons]; exact ownS_mono hgs (fun _ _ => trivial))
       go_roundw
       case rel => exact ⟨i + 1, _, by omega, by go_num, HN⟩
       case measure => simp [intOf]; omega
      ·have ds0 : ((sl : Int) == 0) = false := beq_eq_false_iff_ne.2 (by omega)
       have ds1 : ((sl : Int) == 1000) = false := beq_eq_false_iff_ne.2 (by omega)
       have hbx : ∀ w1, Below (wr.heap.size + 1) (wr.alloc (.cells #[.int .u8 1, .int .u8 nd, .int .u8 k0, .string tx, .int .i64 p0, .int .i64 p1, .int .i64 p2, .int .i64 fd] 48)) w1 → _ := fun w1 h => box8 h
       have hbo := H.out.out
       have hbi := H.out.below
       obtain ⟨W1, hW1⟩ : ∃ W1, wr.alloc (.cells #[.int .u8 1, .int .u8 nd, .int .u8 k0, .string tx, .int .i64 p0, .int .i64 p1, .int .i64 p2, .int .i64 fd] 48) = W1 := ⟨_, rfl⟩
       have hs1 : W1.heap.size = wr.heap.size + 1 := by rw [← hW1, World.size_alloc]
       have hb1 : Below wr.heap.size wr W1 := by rw [← hW1]; exact (Below.refl wr.heap.size wr).alloc (Nat.le_refl _) _
       rw [hW1] at hbx
       have HS1 := Lib.hid hs1
       have HBY := Lib.hid hbx
       have HW1 := Lib.hid hW1
       have HB1 := Lib.hid hb1
       have HBI := Lib.hid hbi
       have hbox := Lib.hid (box_later HBX.out hb1)
       have hout := Lib.hid (hbo.trans (hb1.mono hbo.size))
       have HSZ : Hid (w.heap.size + 1 ≤ wr.heap.size) := Lib.hid (by have h := hbi.size; simp only [World.size_alloc] at h; exact h)
       clear hs1 hbx hW1 hb1 hbo hbi
       go_upto_region 7 with (fail)
       rw [HW1.out]
       obtain ⟨y0, y1, y2, y3, y4, y5, y6, y7⟩ := HBY.out W1 (Below.refl _ _)
       have hown := ownS_below H.out.own HB1.out
       obtain ⟨cells, G, r2, r3, r4, r5⟩ := hown
       rw [List.length_reverse, HSL.out] at r2
       have HS7 : Hid (sl ≠ 1000) := Lib.hid (by omega)
       have HP : Hid ((∀ b, (Value.slice Av sl cv).ownBlock = some b → True ∧ ¬ G b) ∧ OwnL W1 (w.heap.size + 1) S.reverse cells G) := Lib.hid ⟨r4, r3⟩
       have R2 := Lib.hid r2
       have hfit : Hid ((sl + 1) * 88 ≤ 140737488355328) := Lib.hid (by omega)
       have hbs : Hid (w.heap.size + 1 ≤ W1.heap.size) := Lib.hid (by have h1 := HS1.out; have h2 := HSZ.out; omega)
       have hBB : Hid (Below (w.heap.size + 1) (zBox w) W1) := Lib.hid (HBI.out.trans (HB1.out.mono HSZ.out))
       clear r2 r3 r4 r5
       go_wp2_with ((with_reducible refine gate_dst (N := 45) rfl ?_); refine print_append_cells (w0 := zBox w) (w.heap.size + 1) rfl (.tmp 40) (.tmp 44) 30 32 _ 8 88 rfl Tryz.underlying30 infoNd rfl (by decide) (by decide) (.slice Av sl cv) sl cells (ndCells nd noTk (.slice none 0 0)) rfl rfl rfl (ndCells_one _ _ rfl) R2.out hBB.out hbs.out hfit.out ?_; intro v1 w4 ho hb4 hg hat; have H4 := Lib.hid (And.intro ho (And.intro hb4 (And.intro hg hat))); clear ho hb4 hg hat)
       have HN : Hid (BInv w w4 l (i + 1) v1 (⟨nd, noTk, []⟩ :: S)) := Lib.hid (by
        obtain ⟨ho, hb4, hg, hat⟩ := H4.out
        have hgs := grown_S (kids := S.reverse) (x := ⟨nd, noTk, []⟩) (F := fun _ => True) (Fx := fun _ => False) (by rw [List.length_reverse, HSL.out]; exact R2.out) HP.out.2 HP.out.1 (fun _ _ => trivial) (kid_own _ _ nd noTk _) (fun _ _ h => h) (by rw [List.length_reverse, HSL.out]; exact ho) hg hat
        refine ⟨?_, H.out.small.push nd (by have := HSL.out; omega), (fun h => by cases h), ?_, hb4⟩
        ·rw [← HDR.out]; simp [runB, hz, HSL.out, HS7.out]
        ·rw [List.reverse_cons]; exact ownS_mono hgs (fun _ _ => trivial))
       go_roundw
       case rel => exact ⟨i + 1, _, by omega, by go_num, HN⟩
       case measure => simp [intOf]; omega
   ·have dk1 : (k == 1) = false := beq_eq_false_iff_ne.2 hk1
    by_cases hk2 : k = 2
    ·subst hk2
     by_cases hS : S = []
     ·subst hS
      have hsl0 : sl = 0 := HSL.out.symm
      subst hsl0
      have hbx : ∀ w1, Below (wr.heap.size + 1) (wr.alloc (.cells #[.int .u8 2, .int .u8 nd, .int .u8 k0, .string tx, .int .i64 p0, .int .i64 p1, .int .i64 p2, .int .i64 fd] 48)) w1 → _ := fun w1 h => box8 h
      have hbo := H.out.out
      have hbi := H.out.below
      obtain ⟨W1, hW1⟩ : ∃ W1, wr.alloc (.cells #[.int .u8 2, .int .u8 nd, .int .u8 k0, .string tx, .int .i64 p0, .int .i64 p1, .int .i64 p2, .int .i64 fd] 48) = W1 := ⟨_, rfl⟩
      have hs1 : W1.heap.size = wr.heap.size + 1 := by rw [← hW1, World.size_alloc]
      have hb1 : Below wr.heap.size wr W1 := by rw [← hW1]; exact (Below.refl wr.heap.size wr).alloc (Nat.le_refl _) _
      rw [hW1] at hbx
      have HS1 := Lib.hid hs1
      have HBY := Lib.hid hbx
      have HW1 := Lib.hid hW1
      have HB1 := Lib.hid hb1
      have HBI := Lib.hid hbi
      have hbox := Lib.hid (box_later HBX.out hb1)
      have hout := Lib.hid (hbo.trans (hb1.mono hbo.size))
      have HSZ : Hid (w.heap.size + 1 ≤ wr.heap.size) := Lib.hid (by have h := hbi.size; simp only [World.size_alloc] at h; exact h)
      clear hs1 hbx hW1 hb1 hbo hbi
      go_upto_region 7 with (fail)
      rw [HW1.out]
      obtain ⟨y0, y1, y2, y3, y4, y5, y6, y7⟩ := HBY.out W1 (Below.refl _ _)
      go_wp2
      go_quiet (fail)
      have HRN : Hid (runB l [] = none) := Lib.hid (by rw [← HDR.out]; simp [runB])
      go_wp2_with ((with_reducible refine gate_ (.store 32 (.tmp 2) (.tmp 61)) rfl ?_); refine wl_box rfl rfl _ _ _ rfl (.agg zNd.toArray) zNd rfl rfl rfl infoNd8 zNd_one hbox.out rfl ?_; intro w5 h5 hu; have H5 := Lib.hid (hu.below (pw_below_drewN hout.out _) (Nat.le_refl _)); clear hu; obtain ⟨c0, c1, c2, c3, c4, c5, c6, c7⟩ := cells8 h5; clear h5)
      refine bodyPost_ret (v := .tuple #[.agg zNd.toArray, .int .i64 130]) ?_ rfl (BuildPost.err HRN.out H5.out)
      rw [results_cell_tmp rfl]
      go_simp
      try rfl
     ·obtain ⟨t, S', rfl⟩ : ∃ t S', S = t :: S' := List.exists_cons_of_ne_nil hS
      by_cases hno : isNote ⟨k0, tx, ⟨p0, p1, p2⟩, fd⟩ = true
      ·clear hS
       have hsS : S'.length + 1 = sl := HSL.out
       obtain ⟨m, rfl⟩ : ∃ m, sl = m + 1 := ⟨S'.length, hsS.symm⟩
       have dm : ((m : Int) + 1 == 0) = false := beq_eq_false_iff_ne.2 (by omega)
       clear hsS
       have HNO := Lib.hid hno
       clear hno
       have hbx : ∀ w1, Below (wr.heap.size + 1) (wr.alloc (.cells #[.int .u8 2, .int .u8 nd, .int .u8 k0, .string tx, .int .i64 p0, .int .i64 p1, .int .i64 p2, .int .i64 fd] 48)) w1 → _ := fun w1 h => box8 h
       have hbo := H.out.out
       have hbi := H.out.below
       obtain ⟨W1, hW1⟩ : ∃ W1, wr.alloc (.cells #[.int .u8 2, .int .u8 nd, .int .u8 k0, .string tx, .int .i64 p0, .int .i64 p1, .int .i64 p2, .int .i64 fd] 48) = W1 := ⟨_, rfl⟩
       have hs1 : W1.heap.size = wr.heap.size + 1 := by rw [← hW1, World.size_alloc]
       have hb1 : Below wr.heap.size wr W1 := by rw [← hW1]; exact (Below.refl wr.heap.size wr).alloc (Nat.le_refl _) _
       rw [hW1] at hbx
       have HS1 := Lib.hid hs1
       have HBY := Lib.hid hbx
       have HW1 := Lib.hid hW1
       have HB1 := Lib.hid hb1
       have HBI := Lib.hid hbi
       have hbox := Lib.hid (box_later HBX.out hb1)
       have hout := Lib.hid (hbo.trans (hb1.mono hbo.size))
       have HSZ : Hid (w.heap.size + 1 ≤ wr.heap.size) := Lib.hid (by have h := hbi.size; simp only [World.size_alloc] at h; exact h)
       clear hs1 hbx hW1 hb1 hbo hbi
       go_upto_region 7 with (fail)
       rw [HW1.out]
       obtain ⟨y0, y1, y2, y3, y4, y5, y6, y7⟩ := HBY.out W1 (Below.refl _ _)
       have CC := Lib.hid (comment_any ⟨k0, tx, ⟨p0, p1, p2⟩, fd⟩)
       clear y0 y1 y2 y3 y4 y5 y6 y7
       go_wp2
       have hb0 : Below (wr.heap.size + 1) W1 W1.drew := (Below.refl _ _).drew
       have HB0 := Lib.hid hb0
       clear hb0
       have k1 := HBY.out _ HB0.out
       go_region_held3 (fun w' => w'.cell? ⟨wr.heap.size, 0, none⟩ = some (.int .u8 2) ∧ w'.cell? ⟨wr.heap.size, 2, none⟩ = some (.int .u8 k0) ∧ w'.cell? ⟨wr.heap.size, 3, none⟩ = some (.string tx) ∧ w'.cell? ⟨wr.heap.size, 4, none⟩ = some (.int .i64 p0) ∧ w'.cell? ⟨wr.heap.size, 5, none⟩ = some (.int .i64 p1) ∧ w'.cell? ⟨wr.heap.size, 6, none⟩ = some (.int .i64 p2) ∧ w'.cell? ⟨wr.heap.size, 7, none⟩ = some (.int .i64 fd))
        (first | exact ⟨k1.1, k1.2.2⟩ | exact ⟨k2.1, k2.2.2⟩ | go_keep)
        (first | (go_at_call 32; (with_reducible refine (CC.out _).mono ?_); rintro e w2 ⟨rfl, hb⟩; have hb2 := HB0.out.trans (hb.mono (Nat.le_of_eq HS1.out.symm)); have HB2 := Lib.hid hb2; have k2 := HBY.out _ HB2.out; clear hb hb2; rw [HNO.out]))
       have hbox2 : Hid (w2.heap[w.heap.size]? = some (.cells zNd.toArray TN (0, 0))) := Lib.hid (box_later HBX.out (HB1.out.trans (HB2.out.mono (Nat.le_succ _))))
       have hout2 : Hid (Below w.heap.size w w2) := Lib.hid (H.out.out.trans ((HB1.out.trans (HB2.out.mono (Nat.le_succ _))).mono H.out.out.size))
       have HRN : Hid (runB l [] = none) := Lib.hid (by rw [← HDR.out]; simp [runB, HNO.out])
       go_wp2_with ((with_reducible refine gate_ (.store 32 (.tmp 2) (.tmp 61)) rfl ?_); refine wl_box rfl rfl _ _ _ rfl (.agg zNd.toArray) zNd rfl rfl rfl infoNd8 zNd_one hbox2.out rfl ?_; intro w5 h5 hu; have H5 := Lib.hid (hu.below hout2.out (Nat.le_refl _)); clear hu; obtain ⟨c0, c1, c2, c3, c4, c5, c6, c7⟩ := cells8 h5; clear h5)
       refine bodyPost_ret (v := .tuple #[.agg zNd.toArray, .int .i64 130]) ?_ rfl (BuildPost.err HRN.out H5.out)
       rw [results_cell_tmp rfl]
       go_simp
       try rfl
      ·clear hS
       replace hno : isNote ⟨k0, tx, ⟨p0, p1, p2⟩, fd⟩ = false := by revert hno; cases isNote ⟨k0, tx, ⟨p0, p1, p2⟩, fd⟩ <;> simp
       have HNO := Lib.hid hno
       clear hno
       have hown := H.out.own
       rw [List.reverse_cons] at hown
       obtain ⟨g, cap, u, hgu, htx⟩ := tops_of hown
       rw [List.length_reverse] at hgu
       have hsS : S'.length + 1 = sl := HSL.out
       rw [hsS] at hgu
       injection hgu with hg1 _ hg3
       subst hg1; subst hg3
       obtain ⟨m, rfl⟩ : ∃ m, sl = m + 1 := ⟨S'.length, hsS.symm⟩
       obtain ⟨Au, cu, hu⟩ := top_slice htx
       obtain ⟨q, hq⟩ : ∃ q, t.f2.length = q := ⟨_, rfl⟩
       have hqi : q ≤ i := by rw [← hq]; exact H.out.small.2 t List.mem_cons_self
       rw [hq] at hu
       subst hu
       obtain ⟨cells, G1, G2, kc, Gk, hX⟩ := htx.top
       have HX0 := Lib.hid hX
       have HQ := Lib.hid hq
       have HM : Hid (S'.reverse.length = m) := Lib.hid (by rw [List.length_reverse]; omega)
       have dm : ((m : Int) + 1 == 0) = false := beq_eq_false_iff_ne.2 (by omega)
       clear hown htx hX hq hsS
       have hbx : ∀ w1, Below (wr.heap.size + 1) (wr.alloc (.cells #[.int .u8 2, .int .u8 nd, .int .u8 k0, .string tx, .int .i64 p0, .int .i64 p1, .int .i64 p2, .int .i64 fd] 48)) w1 → _ := fun w1 h => box8 h
       have hbo := H.out.out
       have hbi := H.out.below
       obtain ⟨W1, hW1⟩ : ∃ W1, wr.alloc (.cells #[.int .u8 2, .int .u8 nd, .int .u8 k0, .string tx, .int .i64 p0, .int .i64 p1, .int .i64 p2, .int .i64 fd] 48) = W1 := ⟨_, rfl⟩
       have hs1 : W1.heap.size = wr.heap.size + 1 := by rw [← hW1, World.size_alloc]
       have hb1 : Below wr.heap.size wr W1 := by rw [← hW1]; exact (Below.refl wr.heap.size wr).alloc (Nat.le_refl _) _
       rw [hW1] at hbx
       have HS1 := Lib.hid hs1
       have HBY := Lib.hid hbx
       have HW1 := Lib.hid hW1
       have HB1 := Lib.hid hb1
       have HBI := Lib.hid hbi
       have hbox := Lib.hid (box_later HBX.out hb1)
       have hout := Lib.hid (hbo.trans (hb1.mono hbo.size))
       have HSZ : Hid (w.heap.size + 1 ≤ wr.heap.size) := Lib.hid (by have h := hbi.size; simp only [World.size_alloc] at h; exact h)
       clear hs1 hbx hW1 hb1 hbo hbi
       go_upto_region 7 with (fail)
       rw [HW1.out]
       obtain ⟨y0, y1, y2, y3, y4, y5, y6, y7⟩ := HBY.out W1 (Below.refl _ _)
       have CC := Lib.hid (comment_any ⟨k0, tx, ⟨p0, p1, p2⟩, fd⟩)
       clear y0 y1 y2 y3 y4 y5 y6 y7
       go_wp2
       have hb0 : Below (wr.heap.size + 1) W1 W1.drew := (Below.refl _ _).drew
       have HB0 := Lib.hid hb0
       clear hb0
       have k1 := HBY.out _ HB0.out
       go_region_held3 (fun w' => w'.cell? ⟨wr.heap.size, 0, none⟩ = some (.int .u8 2) ∧ w'.cell? ⟨wr.heap.size, 2, none⟩ = some (.int .u8 k0) ∧ w'.cell? ⟨wr.heap.size, 3, none⟩ = some (.string tx) ∧ w'.cell? ⟨wr.heap.size, 4, none⟩ = some (.int .i64 p0) ∧ w'.cell? ⟨wr.heap.size, 5, none⟩ = some (.int .i64 p1) ∧ w'.cell? ⟨wr.heap.size, 6, none⟩ = some (.int .i64 p2) ∧ w'.cell? ⟨wr.heap.size, 7, none⟩ = some (.int .i64 fd))
        (first | exact ⟨k1.1, k1.2.2⟩ | exact ⟨k2.1, k2.2.2⟩ | go_keep)
        (first | (go_at_call 32; (with_reducible refine (CC.out _).mono ?_); rintro e w2 ⟨rfl, hb⟩; have hb2 := HB0.out.trans (hb.mono (Nat.le_of_eq HS1.out.symm)); have HB2 := Lib.hid hb2; have k2 := HBY.out _ HB2.out; clear hb hb2; rw [HNO.out]))
       go_wp2
       have HBD : Hid (Below (wr.heap.size + 1) W1 w2.drew) := Lib.hid HB2.out.drew
       obtain ⟨W, hWd⟩ : ∃ W, w2.drew = W := ⟨_, rfl⟩
       have HWd := Lib.hid hWd
       rw [hWd] at HBD
       have HRW : Hid (Below wr.heap.size wr W) := Lib.hid (HB1.out.trans (HBD.out.mono (Nat.le_succ _)))
       have k3 := HBY.out W HBD.out
       clear hWd
       have HX1 : Hid (TopsX W (w.heap.size + 1) g cv S'.reverse t (.slice Au q cu) (fun _ => True) cells G1 G2 kc Gk) := Lib.hid (topsX_later HX0.out HRW.out)
       have HX := HX1
       clear HX1
       have HKR : Hid (W.ownsRow (w.heap.size + 1) TN 8 (.slice Au q cu) q kc) := Lib.hid (by have := HX.out.krow; rw [HQ.out] at this; exact this)
       have HBA : Hid (w.heap.size + 1 ≤ W.heap.size) := Lib.hid (by have h1 := H.out.below.size; have h2 := HRW.out.size; simp only [World.size_alloc] at h1; omega)
       have HQ8 : Hid ((q + 1) * 88 ≤ 140737488355328) := Lib.hid (by omega)
       have HKL : Hid (kc.length = q * 8) := Lib.hid (by rw [← HQ.out]; exact ownL_len HX.out.kids)
       have HCL : Hid (cells.length = m * 8) := Lib.hid (by rw [← HM.out]; exact ownL_len HX.out.rest)
       have HCL7 : Hid ((cells ++ ndPre t.f0 t.f1).length = m * 8 + 7) := Lib.hid (by rw [List.length_append, HCL.out]; rfl)
       have k7 : W.cell? ⟨g, m * 8 + 7, none⟩ = some (.slice Au q cu) := by have := (topsX_at HX.out 7 _ rfl).1; rw [HM.out] at this; exact this
       have HSA : Hid (∀ w', Below W.heap.size W w' → w'.cell? ⟨g, m * 8 + 7, none⟩ = some (.slice Au q cu) ∧ w'.cell? ⟨wr.heap.size, 2, none⟩ = some (.int .u8 k0) ∧ w'.cell? ⟨wr.heap.size, 3, none⟩ = some (.string tx) ∧ w'.cell? ⟨wr.heap.size, 4, none⟩ = some (.int .i64 p0) ∧ w'.cell? ⟨wr.heap.size, 5, none⟩ = some (.int .i64 p1) ∧ w'.cell? ⟨wr.heap.size, 6, none⟩ = some (.int .i64 p2) ∧ w'.cell? ⟨wr.heap.size, 7, none⟩ = some (.int .i64 fd)) := Lib.hid fun w' hb => ⟨(hb.cell (World.block_lt_of_cell? W _ k7)).trans k7, (HBY.out w' (HBD.out.trans (hb.mono (by have h1 := HBD.out.size; have h2 := HS1.out; omega)))).2.2⟩
       have HXX : Hid (Own W (w.heap.size + 1) ⟨0, ⟨k0, tx, ⟨p0, p1, p2⟩, fd⟩, []⟩ (ndCells 0 ⟨k0, tx, ⟨p0, p1, p2⟩, fd⟩ (.slice none 0 0)) (fun _ => False)) := Lib.hid (kid_own _ _ _ _ _)
       refine wp_region_P (fun w' => w'.cell? ⟨g, m * 8 + 7, none⟩ = some (.slice Au q cu) ∧ w'.cell? ⟨wr.heap.size, 2, none⟩ = some (.int .u8 k0) ∧ w'.cell? ⟨wr.heap.size, 3, none⟩ = some (.string tx) ∧ w'.cell? ⟨wr.heap.size, 4, none⟩ = some (.int .i64 p0) ∧ w'.cell? ⟨wr.heap.size, 5, none⟩ = some (.int .i64 p1) ∧ w'.cell? ⟨wr.heap.size, 6, none⟩ = some (.int .i64 p2) ∧ w'.cell? ⟨wr.heap.size, 7, none⟩ = some (.int .i64 fd)) (fun j => Nat.ble j 8) (by kernel_rfl) ?_
       have HS : Hid (W.cell? ⟨g, m * 8 + 7, none⟩ = some (.slice Au q cu) ∧ W.cell? ⟨wr.heap.size, 2, none⟩ = some (.int .u8 k0) ∧ W.cell? ⟨wr.heap.size, 3, none⟩ = some (.string tx) ∧ W.cell? ⟨wr.heap.size, 4, none⟩ = some (.int .i64 p0) ∧ W.cell? ⟨wr.heap.size, 5, none⟩ = some (.int .i64 p1) ∧ W.cell? ⟨wr.heap.size, 6, none⟩ = some (.int .i64 p2) ∧ W.cell? ⟨wr.heap.size, 7, none⟩ = some (.int .i64 fd)) := Lib.hid ⟨k7, k3.2.2⟩
       rw [HWd.out]
       refine anyP_take (i := 0) (oi := ⟨some 67, .move (.tmp 7), 84, "tree.go:28", #[], none⟩) (v := ?_) rfl (by kernel_rfl) (fun _ _ _ h => h) (Or.inl ⟨by rfl, ?_⟩) HS.out ?_
       rotate_left
       ·intro x h; (try dsimp only at h); go_simp; try (with_reducible rfl)
       try simp only [Act.put, List.setIfInBounds_toArray, List.set]
       refine anyP_take (i := 1) (oi := ⟨some 68, .nilCheck (.tmp 67), 0, "tree.go:28", #[⟨0, .data⟩], none⟩) (v := ?_) rfl (by kernel_rfl) (fun _ _ _ h => h) (Or.inl ⟨by rfl, ?_⟩) HS.out ?_
       rotate_left
       ·intro x h; (try dsimp only at h); go_simp; try (with_reducible rfl)
       try simp only [Act.put, List.setIfInBounds_toArray, List.set]
       refine anyP_take (i := 2) (oi := ⟨some 69, .fieldAddr 32 (.tmp 68) 2, 0, "tree.go:28", #[⟨1, .data⟩], none⟩) (v := ?_) rfl (by kernel_rfl) (fun _ _ _ h => h) (Or.inl ⟨by rfl, ?_⟩) HS.out ?_
       rotate_left
       ·intro x h; (try dsimp only at h); go_simp; try (with_reducible rfl)
       try simp only [Act.put, List.setIfInBounds_toArray, List.set]
       refine anyP_take (i := 3) (oi := ⟨some 70, .load 30 (.tmp 69), 30, "tree.go:28", #[⟨2, .data⟩], none⟩) (v := ?_) rfl (by kernel_rfl) (fun _ _ _ h => h) (Or.inl ⟨by rfl, ?_⟩) HS.out ?_
       rotate_left
       ·intro x h; (try dsimp only at h); go_simp; try (with_reducible rfl)
       try simp only [Act.put, List.setIfInBounds_toArray, List.set]
       refine anyP_take (i := 4) (oi := ⟨some 71, .fieldAddr 48 (.tmp 6) 2, 0, "tree.go:28", #[], none⟩) (v := ?_) rfl (by kernel_rfl) (fun _ _ _ h => h) (Or.inl ⟨by rfl, ?_⟩) HS.out ?_
       rotate_left
       ·intro x h; (try dsimp only at h); go_simp; try (with_reducible rfl)
       try simp only [Act.put, List.setIfInBounds_toArray, List.set]
       refine anyP_take (i := 5) (oi := ⟨some 72, .load 28 (.tmp 71), 28, "tree.go:28", #[⟨4, .data⟩], none⟩) (v := ?_) rfl (by kernel_rfl) (fun _ _ _ h => h) (Or.inl ⟨by rfl, ?_⟩) HS.out ?_
       rotate_left
       ·intro x h; (try dsimp only at h); go_simp; try (with_reducible rfl)
       try simp only [Act.put, List.setIfInBounds_toArray, List.set]
       refine anyP_take (i := 6) (oi := ⟨some 73, .build 32 #[(1, .tmp 72)], 32, "tree.go:28", #[⟨5, .data⟩], none⟩) (v := ?_) rfl (by kernel_rfl) (fun _ _ _ h => h) (Or.inl ⟨by rfl, ?_⟩) HS.out ?_
       rotate_left
       ·intro x h; (try dsimp only at h); go_simp; try (with_reducible rfl)
       try simp only [Act.put, List.setIfInBounds_toArray, List.set]
       refine anyP_take (i := 7) (oi := ⟨some 74, .call { callee := .builtin .len, args := #[.tmp 70], argTypes := #[30] }, 3, "tree.go:28", #[⟨3, .data⟩], none⟩) (v := ?_) rfl (by kernel_rfl) (fun _ _ _ h => h) (Or.inl ⟨by rfl, ?_⟩) HS.out ?_
       rotate_left
       ·intro x h; (try dsimp only at h); go_simp; try (with_reducible rfl)
       try simp only [Act.put, List.setIfInBounds_toArray, List.set]
       refine anyP_ready (rs := [8]) (by kernel_rfl) (by simp) ?_
       refine ReadyP.cons (o := ⟨some 75, .buildSlice 30 1 #[(0, .const (.agg #[.int .u8 0, .int .u8 0, .string { data := #[] }, .int .i64 0, .int .i64 0, .int .i64 0, .int .i64 0, .slice none 0 0]))], 30, "tree.go:28", #[], none⟩) rfl (fun K hK => ?_) ReadyP.nil
       go_simp
       refine hK.out _ _ (fun _ => ?_) ?_
       ·exact HSA.out _ (Below.refl W.heap.size W |>.alloc (Nat.le_refl _) _)
       clear hK K
       try simp only [Act.put, List.setIfInBounds_toArray, List.set]
       refine anyP_ready (rs := [9]) (by kernel_rfl) (by simp) ?_
       refine ReadyP.cons (o := ⟨some 76, .call { callee := .builtin .append, args := #[.tmp 70, .tmp 75], argTypes := #[30, 30] }, 30, "tree.go:28", #[⟨3, .data⟩, ⟨8, .data⟩, ⟨0, .phase⟩, ⟨1, .phase⟩, ⟨2, .phase⟩, ⟨3, .phase⟩, ⟨4, .phase⟩, ⟨5, .phase⟩, ⟨6, .phase⟩, ⟨7, .phase⟩, ⟨8, .phase⟩], none⟩) rfl (fun K hK => ?_) ReadyP.nil
       refine step_kid rfl (.tmp 70) (.tmp 75) rfl (w.heap.size + 1) (cs := zNd) rfl rfl HKR.out rfl zNd_one HBA.out HQ8.out ?_
       intro g1 c1 w1 ho hg hat
       refine hK.out _ _ (fun h => absurd h (by decide)) ?_
       clear hK K
       try simp only [Act.put, List.setIfInBounds_toArray, List.set]
       have hr := row_grown HX.out hg
       have hne := g_ne HX.out hat
       rw [HM.out] at hr
       obtain ⟨cur1, hh1, hf1⟩ := (row_set_end ho (q * 8) (ndCells 0 ⟨k0, tx, ⟨p0, p1, p2⟩, fd⟩ (.slice none 0 0)) HKL.out rfl).2
       have hr' := hr
       rw [ndCells_pre, ← List.append_assoc] at hr'
       obtain ⟨cur2, hh2, hf2⟩ := (row_set_end (far_row hr' hne (q * 8) (ndCells 0 ⟨k0, tx, ⟨p0, p1, p2⟩, fd⟩ (.slice none 0 0))) (m * 8 + 7) [.slice (some ⟨g1, 0, none⟩) (q + 1) c1] HCL7.out rfl).2
       obtain ⟨cur3, hh3, hf3⟩ := (row_set_end hr' (m * 8 + 7) [.slice (some ⟨g1, 0, none⟩) (q + 1) c1] HCL7.out rfl).2
       obtain ⟨cur4, hh4, hf4⟩ := (row_set_end (far_row ho (Ne.symm hne) (m * 8 + 7) [.slice (some ⟨g1, 0, none⟩) (q + 1) c1]) (q * 8) (ndCells 0 ⟨k0, tx, ⟨p0, p1, p2⟩, fd⟩ (.slice none 0 0)) HKL.out rfl).2
       have HA := added HX.out HXX.out (fun _ h => h.elim) (fun _ h => h.elim) (fun h => h) hg hat HM.out HQ.out (two_a (zs := zNd) hr HCL.out ho HKL.out rfl rfl hne)
       have HC := added HX.out HXX.out (fun _ h => h.elim) (fun _ h => h.elim) (fun h => h) hg hat HM.out HQ.out (two_b (zs := zNd) hr HCL.out ho HKL.out rfl rfl hne)
       have HAH := Lib.hid HA
       have HCH := Lib.hid HC
       have HH1 := Lib.hid hh1
       have HF1 := Lib.hid hf1
       have HH2 := Lib.hid hh2
       have HF2 := Lib.hid hf2
       have HH3 := Lib.hid hh3
       have HF3 := Lib.hid hf3
       have HH4 := Lib.hid hh4
       have HF4 := Lib.hid hf4
       clear HA HC hh1 hf1 hh2 hf2 hh3 hf3 hh4 hf4 hr hr' ho hg hat hne
       have hqq : (q : Int) < (q : Int) + 1 := by omega
       refine anyP_take0 (i := 10) (oi := ⟨some 77, .indexAddr 30 (.tmp 76) (.tmp 74), 0, "tree.go:28", #[⟨9, .data⟩, ⟨7, .data⟩, ⟨0, .phase⟩, ⟨1, .phase⟩, ⟨2, .phase⟩, ⟨3, .phase⟩, ⟨4, .phase⟩, ⟨5, .phase⟩, ⟨6, .phase⟩, ⟨7, .phase⟩, ⟨8, .phase⟩, ⟨9, .phase⟩, ⟨14, .gcOnly .appendInPlace⟩], none⟩) (v := ?_) rfl (by kernel_rfl) (fun _ _ _ h => h) (Or.inl ⟨by rfl, ?_⟩) ?_
       rotate_left
       ·intro w9; go_simp; try (with_reducible rfl)
       try simp only [Act.put, List.setIfInBounds_toArray, List.set]
       refine anyP_take0 (i := 12) (oi := ⟨some 78, .nilCheck (.tmp 67), 0, "tree.go:28", #[⟨0, .data⟩, ⟨0, .phase⟩, ⟨1, .phase⟩, ⟨2, .phase⟩, ⟨3, .phase⟩, ⟨4, .phase⟩, ⟨5, .phase⟩, ⟨6, .phase⟩, ⟨7, .phase⟩, ⟨8, .phase⟩, ⟨9, .phase⟩, ⟨10, .textOnly .appendInPlace⟩, ⟨11, .textOnly .appendInPlace⟩], none⟩) (v := ?_) rfl (by kernel_rfl) (fun _ _ _ h => h) (Or.inl ⟨by rfl, ?_⟩) ?_
       rotate_left
       ·intro w9; go_simp; try (with_reducible rfl)
       try simp only [Act.put, List.setIfInBounds_toArray, List.set]
       refine anyP_take0 (i := 13) (oi := ⟨some 79, .fieldAddr 32 (.tmp 78) 2, 0, "tree.go:28", #[⟨12, .data⟩, ⟨0, .phase⟩, ⟨1, .phase⟩, ⟨2, .phase⟩, ⟨3, .phase⟩, ⟨4, .phase⟩, ⟨5, .phase⟩, ⟨6, .phase⟩, ⟨7, .phase⟩, ⟨8, .phase⟩, ⟨9, .phase⟩, ⟨10, .textOnly .appendInPlace⟩, ⟨11, .textOnly .appendInPlace⟩], none⟩) (v := ?_) rfl (by kernel_rfl) (fun _ _ _ h => h) (Or.inl ⟨by rfl, ?_⟩) ?_
       rotate_left
       ·intro w9; go_simp; try (with_reducible rfl)
       try simp only [Act.put, List.setIfInBounds_toArray, List.set]
       refine anyP_ready (rs := [11, 14]) (by kernel_rfl) (by simp) ?_
       refine ReadyP.cons (o := ⟨none, .store 32 (.tmp 77) (.tmp 73), 0, "tree.go:28", #[⟨10, .data⟩, ⟨6, .data⟩, ⟨9, .chain⟩, ⟨0, .phase⟩, ⟨1, .phase⟩, ⟨2, .phase⟩, ⟨3, .phase⟩, ⟨4, .phase⟩, ⟨5, .phase⟩, ⟨6, .phase⟩, ⟨7, .phase⟩, ⟨8, .phase⟩, ⟨9, .phase⟩, ⟨14, .gcOnly .appendInPlace⟩], none⟩) rfl (fun K hK => ?_) (ReadyP.cons (o := ⟨none, .store 30 (.tmp 79) (.tmp 76), 0, "tree.go:28", #[⟨13, .data⟩, ⟨9, .data⟩, ⟨9, .chain⟩, ⟨11, .textOnly .appendInPlace⟩, ⟨0, .phase⟩, ⟨1, .phase⟩, ⟨2, .phase⟩, ⟨3, .phase⟩, ⟨4, .phase⟩, ⟨5, .phase⟩, ⟨6, .phase⟩, ⟨7, .phase⟩, ⟨8, .phase⟩, ⟨9, .phase⟩, ⟨10, .textOnly .appendInPlace⟩, ⟨11, .textOnly .appendInPlace⟩], none⟩) rfl (fun K hK => ?_) ReadyP.nil)
       ·refine step_store rfl rfl 32 (.tmp 77) (.tmp 73) rfl _ (ndCells 0 ⟨k0, tx, ⟨p0, p1, p2⟩, fd⟩ (.slice none 0 0)) rfl rfl rfl infoNd8 (ndCells_one 0 ⟨k0, tx, ⟨p0, p1, p2⟩, fd⟩ rfl) HH1.out HF1.out ?_
        refine hK.out _ _ (fun h => absurd h (by decide)) ?_
        clear hK K
        generalize w1.setCells g1 (q * 8) (ndCells 0 ⟨k0, tx, ⟨p0, p1, p2⟩, fd⟩ (.slice none 0 0)) = w2x at HH2 HAH ⊢
        refine anyP_ready (rs := [14]) (by kernel_rfl) (by simp) ?_
        refine ReadyP.cons (o := ⟨none, .store 30 (.tmp 79) (.tmp 76), 0, "tree.go:28", #[⟨13, .data⟩, ⟨9, .data⟩, ⟨9, .chain⟩, ⟨11, .textOnly .appendInPlace⟩, ⟨0, .phase⟩, ⟨1, .phase⟩, ⟨2, .phase⟩, ⟨3, .phase⟩, ⟨4, .phase⟩, ⟨5, .phase⟩, ⟨6, .phase⟩, ⟨7, .phase⟩, ⟨8, .phase⟩, ⟨9, .phase⟩, ⟨10, .textOnly .appendInPlace⟩, ⟨11, .textOnly .appendInPlace⟩], none⟩) rfl (fun K hK => ?_) ReadyP.nil
        refine step_store rfl rfl 30 (.tmp 79) (.tmp 76) rfl _ [.slice (some ⟨g1, 0, none⟩) (q + 1) c1] rfl rfl rfl infoNdS (fun u hu => by rw [List.mem_singleton.1 hu]; rfl) HH2.out HF2.out ?_
        refine hK.out _ _ (fun h => absurd h (by decide)) ?_
        clear hK K
        refine anyP_done (by kernel_rfl) ?_ _
        clear HH1 HH2 HH3 HH4 HF1 HF2 HF3 HF4
        have HZ := HAH
        clear HAH HCH
        generalize w2x.setCells g (m * 8 + 7) [.slice (some ⟨g1, 0, none⟩) (q + 1) c1] = wf at HZ ⊢
        have HN : Hid (BInv w wf l (i + 1) (.slice (some ⟨g, 0, none⟩) (m + 1) cv) (addKid t ⟨0, ⟨k0, tx, ⟨p0, p1, p2⟩, fd⟩, []⟩ :: S')) := Lib.hid (by
         refine ⟨?_, H.out.small.add, (fun h => by cases h), ?_, HZ.out.2 _ _ (Nat.le_refl _) (HBI.out.trans (HRW.out.mono (by have h1 := HBI.out.size; simp only [World.size_alloc] at h1; omega)))⟩
         ·rw [← HDR.out]; simp [runB, HNO.out]
         ·have hz := HZ.out.1; rw [List.reverse_cons]; exact hz)
        clear HZ
        go_wp2
        go_roundw
        case rel => exact ⟨i + 1, _, by omega, by go_num, HN⟩
        case measure => simp [intOf]; omega
       ·refine step_store rfl rfl 30 (.tmp 79) (.tmp 76) rfl _ [.slice (some ⟨g1, 0, none⟩) (q + 1) c1] rfl rfl rfl infoNdS (fun u hu => by rw [List.mem_singleton.1 hu]; rfl) HH3.out HF3.out ?_
        refine hK.out _ _ (fun h => absurd h (by decide)) ?_
        clear hK K
        generalize w1.setCells g (m * 8 + 7) [.slice (some ⟨g1, 0, none⟩) (q + 1) c1] = w2x at HH4 HCH ⊢
        refine anyP_ready (rs := [11]) (by kernel_rfl) (by simp) ?_
        refine ReadyP.cons (o := ⟨none, .store 32 (.tmp 77) (.tmp 73), 0, "tree.go:28", #[⟨10, .data⟩, ⟨6, .data⟩, ⟨9, .chain⟩, ⟨0, .phase⟩, ⟨1, .phase⟩, ⟨2, .phase⟩, ⟨3, .phase⟩, ⟨4, .phase⟩, ⟨5, .phase⟩, ⟨6, .phase⟩, ⟨7, .phase⟩, ⟨8, .phase⟩, ⟨9, .phase⟩, ⟨14, .gcOnly .appendInPlace⟩], none⟩) rfl (fun K hK => ?_) ReadyP.nil
        refine step_store rfl rfl 32 (.tmp 77) (.tmp 73) rfl _ (ndCells 0 ⟨k0, tx, ⟨p0, p1, p2⟩, fd⟩ (.slice none 0 0)) rfl rfl rfl infoNd8 (ndCells_one 0 ⟨k0, tx, ⟨p0, p1, p2⟩, fd⟩ rfl) HH4.out HF4.out ?_
        refine hK.out _ _ (fun h => absurd h (by decide)) ?_
        clear hK K
        refine anyP_done (by kernel_rfl) ?_ _
        clear HH1 HH2 HH3 HH4 HF1 HF2 HF3 HF4
        have HZ := HCH
        clear HAH HCH
        generalize w2x.setCells g1 (q * 8) (ndCells 0 ⟨k0, tx, ⟨p0, p1, p2⟩, fd⟩ (.slice none 0 0)) = wf at HZ ⊢
        have HN : Hid (BInv w wf l (i + 1) (.slice (some ⟨g, 0, none⟩) (m + 1) cv) (addKid t ⟨0, ⟨k0, tx, ⟨p0, p1, p2⟩, fd⟩, []⟩ :: S')) := Lib.hid (by
         refine ⟨?_, H.out.small.add, (fun h => by cases h), ?_, HZ.out.2 _ _ (Nat.le_refl _) (HBI.out.trans (HRW.out.mono (by have h1 := HBI.out.size; simp only [World.size_alloc] at h1; omega)))⟩
         ·rw [← HDR.out]; simp [runB, HNO.out]
         ·have hz := HZ.out.1; rw [List.reverse_cons]; exact hz)
        clear HZ
        go_wp2
        go_roundw
        case rel => exact ⟨i + 1, _, by omega, by go_num, HN⟩
        case measure => simp [intOf]; omega
    ·have dk2 : (k == 2) = false := beq_eq_false_iff_ne.2 hk2
     by_cases hk4 : k = 4
     ·subst hk4
      by_cases hS : S = []
      ·subst hS
       have hsl0 : sl = 0 := HSL.out.symm
       subst hsl0
       have hbx : ∀ w1, Below (wr.heap.size + 1) (wr.alloc (.cells #[.int .u8 4, .int .u8 nd, .int .u8 k0, .string tx, .int .i64 p0, .int .i64 p1, .int .i64 p2, .int .i64 fd] 48)) w1 → _ := fun w1 h => box8 h
       have hbo := H.out.out
       have hbi := H.out.below
       obtain ⟨W1, hW1⟩ : ∃ W1, wr.alloc (.cells #[.int .u8 4, .int .u8 nd, .int .u8 k0, .string tx, .int .i64 p0, .int .i64 p1, .int .i64 p2, .int .i64 fd] 48) = W1 := ⟨_, rfl⟩
       have hs1 : W1.heap.size = wr.heap.size + 1 := by rw [← hW1, World.size_alloc]
       have hb1 : Below wr.heap.size wr W1 := by rw [← hW1]; exact (Below.refl wr.heap.size wr).alloc (Nat.le_refl _) _
       rw [hW1] at hbx
       have HS1 := Lib.hid hs1
       have HBY := Lib.hid hbx
       have HW1 := Lib.hid hW1
       have HB1 := Lib.hid hb1
       have HBI := Lib.hid hbi
       have hbox := Lib.hid (box_later HBX.out hb1)
       have hout := Lib.hid (hbo.trans (hb1.mono hbo.size))
       have HSZ : Hid (w.heap.size + 1 ≤ wr.heap.size) := Lib.hid (by have h := hbi.size; simp only [World.size_alloc] at h; exact h)
       clear hs1 hbx hW1 hb1 hbo hbi
       go_upto_region 7 with (fail)
       rw [HW1.out]
       obtain ⟨y0, y1, y2, y3, y4, y5, y6, y7⟩ := HBY.out W1 (Below.refl _ _)
       go_wp2
       go_quiet (fail)
       have HRN : Hid (runB l [] = none) := Lib.hid (by rw [← HDR.out]; simp [runB])
       go_wp2_with ((with_reducible refine gate_ (.store 32 (.tmp 2) (.tmp 61)) rfl ?_); refine wl_box rfl rfl _ _ _ rfl (.agg zNd.toArray) zNd rfl rfl rfl infoNd8 zNd_one hbox.out rfl ?_; intro w5 h5 hu; have H5 := Lib.hid (hu.below (pw_below_drewN hout.out _) (Nat.le_refl _)); clear hu; obtain ⟨c0, c1, c2, c3, c4, c5, c6, c7⟩ := cells8 h5; clear h5)
       refine bodyPost_ret (v := .tuple #[.agg zNd.toArray, .int .i64 130]) ?_ rfl (BuildPost.err HRN.out H5.out)
       rw [results_cell_tmp rfl]
       go_simp
       try rfl
      ·obtain ⟨t, S', rfl⟩ : ∃ t S', S = t :: S' := List.exists_cons_of_ne_nil hS
       by_cases hno : isNote ⟨k0, tx, ⟨p0, p1, p2⟩, fd⟩ = false
       ·clear hS
        have hsS : S'.length + 1 = sl := HSL.out
        obtain ⟨m, rfl⟩ : ∃ m, sl = m + 1 := ⟨S'.length, hsS.symm⟩
        have dm : ((m : Int) + 1 == 0) = false := beq_eq_false_iff_ne.2 (by omega)
        clear hsS
        have HNO := Lib.hid hno
        clear hno
        have hbx : ∀ w1, Below (wr.heap.size + 1) (wr.alloc (.cells #[.int .u8 4, .int .u8 nd, .int .u8 k0, .string tx, .int .i64 p0, .int .i64 p1, .int .i64 p2, .int .i64 fd] 48)) w1 → _ := fun w1 h => box8 h
        have hbo := H.out.out
        have hbi := H.out.below
        obtain ⟨W1, hW1⟩ : ∃ W1, wr.alloc (.cells #[.int .u8 4, .int .u8 nd, .int .u8 k0, .string tx, .int .i64 p0, .int .i64 p1, .int .i64 p2, .int .i64 fd] 48) = W1 := ⟨_, rfl⟩
        have hs1 : W1.heap.size = wr.heap.size + 1 := by rw [← hW1, World.size_alloc]
        have hb1 : Below wr.heap.size wr W1 := by rw [← hW1]; exact (Below.refl wr.heap.size wr).alloc (Nat.le_refl _) _
        rw [hW1] at hbx
        have HS1 := Lib.hid hs1
        have HBY := Lib.hid hbx
        have HW1 := Lib.hid hW1
        have HB1 := Lib.hid hb1
        have HBI := Lib.hid hbi
        have hbox := Lib.hid (box_later HBX.out hb1)
        have hout := Lib.hid (hbo.trans (hb1.mono hbo.size))
        have HSZ : Hid (w.heap.size + 1 ≤ wr.heap.size) := Lib.hid (by have h := hbi.size; simp only [World.size_alloc] at h; exact h)
        clear hs1 hbx hW1 hb1 hbo hbi
        go_upto_region 7 with (fail)
        rw [HW1.out]
        obtain ⟨y0, y1, y2, y3, y4, y5, y6, y7⟩ := HBY.out W1 (Below.refl _ _)
        have CC := Lib.hid (comment_any ⟨k0, tx, ⟨p0, p1, p2⟩, fd⟩)
        clear y0 y1 y2 y3 y4 y5 y6 y7
        go_wp2
        have hb0 : Below (wr.heap.size + 1) W1 W1.drew := (Below.refl _ _).drew
        have HB0 := Lib.hid hb0
        clear hb0
        have k1 := HBY.out _ HB0.out
        go_region_held3 (fun w' => w'.cell? ⟨wr.heap.size, 0, none⟩ = some (.int .u8 4) ∧ w'.cell? ⟨wr.heap.size, 2, none⟩ = some (.int .u8 k0) ∧ w'.cell? ⟨wr.heap.size, 3, none⟩ = some (.string tx) ∧ w'.cell? ⟨wr.heap.size, 4, none⟩ = some (.int .i64 p0) ∧ w'.cell? ⟨wr.heap.size, 5, none⟩ = some (.int .i64 p1) ∧ w'.cell? ⟨wr.heap.size, 6, none⟩ = some (.int .i64 p2) ∧ w'.cell? ⟨wr.heap.size, 7, none⟩ = some (.int .i64 fd))
         (first | exact ⟨k1.1, k1.2.2⟩ | exact ⟨k2.1, k2.2.2⟩ | go_keep)
         (first | (go_at_call 32; (with_reducible refine (CC.out _).mono ?_); rintro e w2 ⟨rfl, hb⟩; have hb2 := HB0.out.trans (hb.mono (Nat.le_of_eq HS1.out.symm)); have HB2 := Lib.hid hb2; have k2 := HBY.out _ HB2.out; clear hb hb2; rw [HNO.out]))
        have hbox2 : Hid (w2.heap[w.heap.size]? = some (.cells zNd.toArray TN (0, 0))) := Lib.hid (box_later HBX.out (HB1.out.trans (HB2.out.mono (Nat.le_succ _))))
        have hout2 : Hid (Below w.heap.size w w2) := Lib.hid (H.out.out.trans ((HB1.out.trans (HB2.out.mono (Nat.le_succ _))).mono H.out.out.size))
        have HRN : Hid (runB l [] = none) := Lib.hid (by rw [← HDR.out]; simp [runB, HNO.out])
        go_wp2_with ((with_reducible refine gate_ (.store 32 (.tmp 2) (.tmp 61)) rfl ?_); refine wl_box rfl rfl _ _ _ rfl (.agg zNd.toArray) zNd rfl rfl rfl infoNd8 zNd_one hbox2.out rfl ?_; intro w5 h5 hu; have H5 := Lib.hid (hu.below hout2.out (Nat.le_refl _)); clear hu; obtain ⟨c0, c1, c2, c3, c4, c5, c6, c7⟩ := cells8 h5; clear h5)
        refine bodyPost_ret (v := .tuple #[.agg zNd.toArray, .int .i64 130]) ?_ rfl (BuildPost.err HRN.out H5.out)
        rw [results_cell_tmp rfl]
        go_simp
        try rfl
       ·clear hS
        replace hno : isNote ⟨k0, tx, ⟨p0, p1, p2⟩, fd⟩ = true := by revert hno; cases isNote ⟨k0, tx, ⟨p0, p1, p2⟩, fd⟩ <;> simp
        have HNO := Lib.hid hno
        clear hno
        have hown := H.out.own
        rw [List.reverse_cons] at hown
        obtain ⟨g, cap, u, hgu, htx⟩ := tops_of hown
        rw [List.length_reverse] at hgu
        have hsS : S'.length + 1 = sl := HSL.out
        rw [hsS] at hgu
        injection hgu with hg1 _ hg3
        subst hg1; subst hg3
        obtain ⟨m, rfl⟩ : ∃ m, sl = m + 1 := ⟨S'.length, hsS.symm⟩
        obtain ⟨Au, cu, hu⟩ := top_slice htx
        obtain ⟨q, hq⟩ : ∃ q, t.f2.length = q := ⟨_, rfl⟩
        have hqi : q ≤ i := by rw [← hq]; exact H.out.small.2 t List.mem_cons_self
        rw [hq] at hu
        subst hu
        obtain ⟨cells, G1, G2, kc, Gk, hX⟩ := htx.top
        have HX0 := Lib.hid hX
        have HQ := Lib.hid hq
        have HM : Hid (S'.reverse.length = m) := Lib.hid (by rw [List.length_reverse]; omega)
        have dm : ((m : Int) + 1 == 0) = false := beq_eq_false_iff_ne.2 (by omega)
        clear hown htx hX hq hsS
        have hbx : ∀ w1, Below (wr.heap.size + 1) (wr.alloc (.cells #[.int .u8 4, .int .u8 nd, .int .u8 k0, .string tx, .int .i64 p0, .int .i64 p1, .int .i64 p2, .int .i64 fd] 48)) w1 → _ := fun w1 h => box8 h
        have hbo := H.out.out
        have hbi := H.out.below
        obtain ⟨W1, hW1⟩ : ∃ W1, wr.alloc (.cells #[.int .u8 4, .int .u8 nd, .int .u8 k0, .string tx, .int .i64 p0, .int .i64 p1, .int .i64 p2, .int .i64 fd] 48) = W1 := ⟨_, rfl⟩
        have hs1 : W1.heap.size = wr.heap.size + 1 := by rw [← hW1, World.size_alloc]
        have hb1 : Below wr.heap.size wr W1 := by rw [← hW1]; exact (Below.refl wr.heap.size wr).alloc (Nat.le_refl _) _
        rw [hW1] at hbx
        have HS1 := Lib.hid hs1
        have HBY := Lib.hid hbx
        have HW1 := Lib.hid hW1
        have HB1 := Lib.hid hb1
        have HBI := Lib.hid hbi
        have hbox := Lib.hid (box_later HBX.out hb1)
        have hout := Lib.hid (hbo.trans (hb1.mono hbo.size))
        have HSZ : Hid (w.heap.size + 1 ≤ wr.heap.size) := Lib.hid (by have h := hbi.size; simp only [World.size_alloc] at h; exact h)
        clear hs1 hbx hW1 hb1 hbo hbi
        go_upto_region 7 with (fail)
        rw [HW1.out]
        obtain ⟨y0, y1, y2, y3, y4, y5, y6, y7⟩ := HBY.out W1 (Below.refl _ _)
        have CC := Lib.hid (comment_any ⟨k0, tx, ⟨p0, p1, p2⟩, fd⟩)
        clear y0 y1 y2 y3 y4 y5 y6 y7
        go_wp2
        have hb0 : Below (wr.heap.size + 1) W1 W1.drew := (Below.refl _ _).drew
        have HB0 := Lib.hid hb0
        clear hb0
        have k1 := HBY.out _ HB0.out
        go_region_held3 (fun w' => w'.cell? ⟨wr.heap.size, 0, none⟩ = some (.int .u8 4) ∧ w'.cell? ⟨wr.heap.size, 2, none⟩ = some (.int .u8 k0) ∧ w'.cell? ⟨wr.heap.size, 3, none⟩ = some (.string tx) ∧ w'.cell? ⟨wr.heap.size, 4, none⟩ = some (.int .i64 p0) ∧ w'.cell? ⟨wr.heap.size, 5, none⟩ = some (.int .i64 p1) ∧ w'.cell? ⟨wr.heap.size, 6, none⟩ = some (.int .i64 p2) ∧ w'.cell? ⟨wr.heap.size, 7, none⟩ = some (.int .i64 fd))
         (first | exact ⟨k1.1, k1.2.2⟩ | exact ⟨k2.1, k2.2.2⟩ | go_keep)
         (first | (go_at_call 32; (with_reducible refine (CC.out _).mono ?_); rintro e w2 ⟨rfl, hb⟩; have hb2 := HB0.out.trans (hb.mono (Nat.le_of_eq HS1.out.symm)); have HB2 := Lib.hid hb2; have k2 := HBY.out _ HB2.out; clear hb hb2; rw [HNO.out]))
        go_wp2
        have HBD : Hid (Below (wr.heap.size + 1) W1 w2.drew) := Lib.hid HB2.out.drew
        obtain ⟨W, hWd⟩ : ∃ W, w2.drew = W := ⟨_, rfl⟩
        have HWd := Lib.hid hWd
        rw [hWd] at HBD
        have HRW : Hid (Below wr.heap.size wr W) := Lib.hid (HB1.out.trans (HBD.out.mono (Nat.le_succ _)))
        have k3 := HBY.out W HBD.out
        clear hWd
        have HX1 : Hid (TopsX W (w.heap.size + 1) g cv S'.reverse t (.slice Au q cu) (fun _ => True) cells G1 G2 kc Gk) := Lib.hid (topsX_later HX0.out HRW.out)
        have HX := HX1
        clear HX1
        have HKR : Hid (W.ownsRow (w.heap.size + 1) TN 8 (.slice Au q cu) q kc) := Lib.hid (by have := HX.out.krow; rw [HQ.out] at this; exact this)
        have HBA : Hid (w.heap.size + 1 ≤ W.heap.size) := Lib.hid (by have h1 := H.out.below.size; have h2 := HRW.out.size; simp only [World.size_alloc] at h1; omega)
        have HQ8 : Hid ((q + 1) * 88 ≤ 140737488355328) := Lib.hid (by omega)
        have HKL : Hid (kc.length = q * 8) := Lib.hid (by rw [← HQ.out]; exact ownL_len HX.out.kids)
        have HCL : Hid (cells.length = m * 8) := Lib.hid (by rw [← HM.out]; exact ownL_len HX.out.rest)
        have HCL7 : Hid ((cells ++ ndPre t.f0 t.f1).length = m * 8 + 7) := Lib.hid (by rw [List.length_append, HCL.out]; rfl)
        have k7 : W.cell? ⟨g, m * 8 + 7, none⟩ = some (.slice Au q cu) := by have := (topsX_at HX.out 7 _ rfl).1; rw [HM.out] at this; exact this
        have HSA : Hid (∀ w', Below W.heap.size W w' → w'.cell? ⟨g, m * 8 + 7, none⟩ = some (.slice Au q cu) ∧ w'.cell? ⟨wr.heap.size, 2, none⟩ = some (.int .u8 k0) ∧ w'.cell? ⟨wr.heap.size, 3, none⟩ = some (.string tx) ∧ w'.cell? ⟨wr.heap.size, 4, none⟩ = some (.int .i64 p0) ∧ w'.cell? ⟨wr.heap.size, 5, none⟩ = some (.int .i64 p1) ∧ w'.cell? ⟨wr.heap.size, 6, none⟩ = some (.int .i64 p2) ∧ w'.cell? ⟨wr.heap.size, 7, none⟩ = some (.int .i64 fd)) := Lib.hid fun w' hb => ⟨(hb.cell (World.block_lt_of_cell? W _ k7)).trans k7, (HBY.out w' (HBD.out.trans (hb.mono (by have h1 := HBD.out.size; have h2 := HS1.out; omega)))).2.2⟩
        have HXX : Hid (Own W (w.heap.size + 1) ⟨0, ⟨k0, tx, ⟨p0, p1, p2⟩, fd⟩, []⟩ (ndCells 0 ⟨k0, tx, ⟨p0, p1, p2⟩, fd⟩ (.slice none 0 0)) (fun _ => False)) := Lib.hid (kid_own _ _ _ _ _)
        refine wp_region_P (fun w' => w'.cell? ⟨g, m * 8 + 7, none⟩ = some (.slice Au q cu) ∧ w'.cell? ⟨wr.heap.size, 2, none⟩ = some (.int .u8 k0) ∧ w'.cell? ⟨wr.heap.size, 3, none⟩ = some (.string tx) ∧ w'.cell? ⟨wr.heap.size, 4, none⟩ = some (.int .i64 p0) ∧ w'.cell? ⟨wr.heap.size, 5, none⟩ = some (.int .i64 p1) ∧ w'.cell? ⟨wr.heap.size, 6, none⟩ = some (.int .i64 p2) ∧ w'.cell? ⟨wr.heap.size, 7, none⟩ = some (.int .i64 fd)) (fun j => Nat.ble j 8) (by kernel_rfl) ?_
        have HS : Hid (W.cell? ⟨g, m * 8 + 7, none⟩ = some (.slice Au q cu) ∧ W.cell? ⟨wr.heap.size, 2, none⟩ = some (.int .u8 k0) ∧ W.cell? ⟨wr.heap.size, 3, none⟩ = some (.string tx) ∧ W.cell? ⟨wr.heap.size, 4, none⟩ = some (.int .i64 p0) ∧ W.cell? ⟨wr.heap.size, 5, none⟩ = some (.int .i64 p1) ∧ W.cell? ⟨wr.heap.size, 6, none⟩ = some (.int .i64 p2) ∧ W.cell? ⟨wr.heap.size, 7, none⟩ = some (.int .i64 fd)) := Lib.hid ⟨k7, k3.2.2⟩
        rw [HWd.out]
        refine anyP_take (i := 0) (oi := ⟨some 67, .move (.tmp 7), 84, "tree.go:28", #[], none⟩) (v := ?_) rfl (by kernel_rfl) (fun _ _ _ h => h) (Or.inl ⟨by rfl, ?_⟩) HS.out ?_
        rotate_left
        ·intro x h; (try dsimp only at h); go_simp; try (with_reducible rfl)
        try simp only [Act.put, List.setIfInBounds_toArray, List.set]
        refine anyP_take (i := 1) (oi := ⟨some 68, .nilCheck (.tmp 67), 0, "tree.go:28", #[⟨0, .data⟩], none⟩) (v := ?_) rfl (by kernel_rfl) (fun _ _ _ h => h) (Or.inl ⟨by rfl, ?_⟩) HS.out ?_
        rotate_left
        ·intro x h; (try dsimp only at h); go_simp; try (with_reducible rfl)
        try simp only [Act.put, List.setIfInBounds_toArray, List.set]
        refine anyP_take (i := 2) (oi := ⟨some 69, .fieldAddr 32 (.tmp 68) 2, 0, "tree.go:28", #[⟨1, .data⟩], none⟩) (v := ?_) rfl (by kernel_rfl) (fun _ _ _ h => h) (Or.inl ⟨by rfl, ?_⟩) HS.out ?_
        rotate_left
        ·intro x h; (try dsimp only at h); go_simp; try (with_reducible rfl)
        try simp only [Act.put, List.setIfInBounds_toArray, List.set]
        refine anyP_take (i := 3) (oi := ⟨some 70, .load 30 (.tmp 69), 30, "tree.go:28", #[⟨2, .data⟩], none⟩) (v := ?_) rfl (by kernel_rfl) (fun _ _ _ h => h) (Or.inl ⟨by rfl, ?_⟩) HS.out ?_
        rotate_left
        ·intro x h; (try dsimp only at h); go_simp; try (with_reducible rfl)
        try simp only [Act.put, List.setIfInBounds_toArray, List.set]
        refine anyP_take (i := 4) (oi := ⟨some 71, .fieldAddr 48 (.tmp 6) 2, 0, "tree.go:28", #[], none⟩) (v := ?_) rfl (by kernel_rfl) (fun _ _ _ h => h) (Or.inl ⟨by rfl, ?_⟩) HS.out ?_
        rotate_left
        ·intro x h; (try dsimp only at h); go_simp; try (with_reducible rfl)
        try simp only [Act.put, List.setIfInBounds_toArray, List.set]
        refine anyP_take (i := 5) (oi := ⟨some 72, .load 28 (.tmp 71), 28, "tree.go:28", #[⟨4, .data⟩], none⟩) (v := ?_) rfl (by kernel_rfl) (fun _ _ _ h => h) (Or.inl ⟨by rfl, ?_⟩) HS.out ?_
        rotate_left
        ·intro x h; (try dsimp only at h); go_simp; try (with_reducible rfl)
        try simp only [Act.put, List.setIfInBounds_toArray, List.set]
        refine anyP_take (i := 6) (oi := ⟨some 73, .build 32 #[(1, .tmp 72)], 32, "tree.go:28", #[⟨5, .data⟩], none⟩) (v := ?_) rfl (by kernel_rfl) (fun _ _ _ h => h) (Or.inl ⟨by rfl, ?_⟩) HS.out ?_
        rotate_left
        ·intro x h; (try dsimp only at h); go_simp; try (with_reducible rfl)
        try simp only [Act.put, List.setIfInBounds_toArray, List.set]
        refine anyP_take (i := 7) (oi := ⟨some 74, .call { callee := .builtin .len, args := #[.tmp 70], argTypes := #[30] }, 3, "tree.go:28", #[⟨3, .data⟩], none⟩) (v := ?_) rfl (by kernel_rfl) (fun _ _ _ h => h) (Or.inl ⟨by rfl, ?_⟩) HS.out ?_
        rotate_left
        ·intro x h; (try dsimp only at h); go_simp; try (with_reducible rfl)
        try simp only [Act.put, List.setIfInBounds_toArray, List.set]
        refine anyP_ready (rs := [8]) (by kernel_rfl) (by simp) ?_
        refine ReadyP.cons (o := ⟨some 75, .buildSlice 30 1 #[(0, .const (.agg #[.int .u8 0, .int .u8 0, .string { data := #[] }, .int .i64 0, .int .i64 0, .int .i64 0, .int .i64 0, .slice none 0 0]))], 30, "tree.go:28", #[], none⟩) rfl (fun K hK => ?_) ReadyP.nil
        go_simp
        refine hK.out _ _ (fun _ => ?_) ?_
        ·exact HSA.out _ (Below.refl W.heap.size W |>.alloc (Nat.le_refl _) _)
        clear hK K
        try simp only [Act.put, List.setIfInBounds_toArray, List.set]
        refine anyP_ready (rs := [9]) (by kernel_rfl) (by simp) ?_
        refine ReadyP.cons (o := ⟨some 76, .call { callee := .builtin .append, args := #[.tmp 70, .tmp 75], argTypes := #[30, 30] }, 30, "tree.go:28", #[⟨3, .data⟩, ⟨8, .data⟩, ⟨0, .phase⟩, ⟨1, .phase⟩, ⟨2, .phase⟩, ⟨3, .phase⟩, ⟨4, .phase⟩, ⟨5, .phase⟩, ⟨6, .phase⟩, ⟨7, .phase⟩, ⟨8, .phase⟩], none⟩) rfl (fun K hK => ?_) ReadyP.nil
        refine step_kid rfl (.tmp 70) (.tmp 75) rfl (w.heap.size + 1) (cs := zNd) rfl rfl HKR.out rfl zNd_one HBA.out HQ8.out ?_
        intro g1 c1 w1 ho hg hat
        refine hK.out _ _ (fun h => absurd h (by decide)) ?_
        clear hK K
        try simp only [Act.put, List.setIfInBounds_toArray, List.set]
        have hr := row_grown HX.out hg
        have hne := g_ne HX.out hat
        rw [HM.out] at hr
        obtain ⟨cur1, hh1, hf1⟩ := (row_set_end ho (q * 8) (ndCells 0 ⟨k0, tx, ⟨p0, p1, p2⟩, fd⟩ (.slice none 0 0)) HKL.out rfl).2
        have hr' := hr
        rw [ndCells_pre, ← List.append_assoc] at hr'
        obtain ⟨cur2, hh2, hf2⟩ := (row_set_end (far_row hr' hne (q * 8) (ndCells 0 ⟨k0, tx, ⟨p0, p1, p2⟩, fd⟩ (.slice none 0 0))) (m * 8 + 7) [.slice (some ⟨g1, 0, none⟩) (q + 1) c1] HCL7.out rfl).2
        obtain ⟨cur3, hh3, hf3⟩ := (row_set_end hr' (m * 8 + 7) [.slice (some ⟨g1, 0, none⟩) (q + 1) c1] HCL7.out rfl).2
        obtain ⟨cur4, hh4, hf4⟩ := (row_set_end (far_row ho (Ne.symm hne) (m * 8 + 7) [.slice (some ⟨g1, 0, none⟩) (q + 1) c1]) (q * 8) (ndCells 0 ⟨k0, tx, ⟨p0, p1, p2⟩, fd⟩ (.slice none 0 0)) HKL.out rfl).2
        have HA := added HX.out HXX.out (fun _ h => h.elim) (fun _ h => h.elim) (fun h => h) hg hat HM.out HQ.out (two_a (zs := zNd) hr HCL.out ho HKL.out rfl rfl hne)
        have HC := added HX.out HXX.out (fun _ h => h.elim) (fun _ h => h.elim) (fun h => h) hg hat HM.out HQ.out (two_b (zs := zNd) hr HCL.out ho HKL.out rfl rfl hne)
        have HAH := Lib.hid HA
        have HCH := Lib.hid HC
        have HH1 := Lib.hid hh1
        have HF1 := Lib.hid hf1
        have HH2 := Lib.hid hh2
        have HF2 := Lib.hid hf2
        have HH3 := Lib.hid hh3
        have HF3 := Lib.hid hf3
        have HH4 := Lib.hid hh4
        have HF4 := Lib.hid hf4
        clear HA HC hh1 hf1 hh2 hf2 hh3 hf3 hh4 hf4 hr hr' ho hg hat hne
        have hqq : (q : Int) < (q : Int) + 1 := by omega
        refine anyP_take0 (i := 10) (oi := ⟨some 77, .indexAddr 30 (.tmp 76) (.tmp 74), 0, "tree.go:28", #[⟨9, .data⟩, ⟨7, .data⟩, ⟨0, .phase⟩, ⟨1, .phase⟩, ⟨2, .phase⟩, ⟨3, .phase⟩, ⟨4, .phase⟩, ⟨5, .phase⟩, ⟨6, .phase⟩, ⟨7, .phase⟩, ⟨8, .phase⟩, ⟨9, .phase⟩, ⟨14, .gcOnly .appendInPlace⟩], none⟩) (v := ?_) rfl (by kernel_rfl) (fun _ _ _ h => h) (Or.inl ⟨by rfl, ?_⟩) ?_
        rotate_left
        ·intro w9; go_simp; try (with_reducible rfl)
        try simp only [Act.put, List.setIfInBounds_toArray, List.set]
        refine anyP_take0 (i := 12) (oi := ⟨some 78, .nilCheck (.tmp 67), 0, "tree.go:28", #[⟨0, .data⟩, ⟨0, .phase⟩, ⟨1, .phase⟩, ⟨2, .phase⟩, ⟨3, .phase⟩, ⟨4, .phase⟩, ⟨5, .phase⟩, ⟨6, .phase⟩, ⟨7, .phase⟩, ⟨8, .phase⟩, ⟨9, .phase⟩, ⟨10, .textOnly .appendInPlace⟩, ⟨11, .textOnly .appendInPlace⟩], none⟩) (v := ?_) rfl (by kernel_rfl) (fun _ _ _ h => h) (Or.inl ⟨by rfl, ?_⟩) ?_
        rotate_left
        ·intro w9; go_simp; try (with_reducible rfl)
        try simp only [Act.put, List.setIfInBounds_toArray, List.set]
        refine anyP_take0 (i := 13) (oi := ⟨some 79, .fieldAddr 32 (.tmp 78) 2, 0, "tree.go:28", #[⟨12, .data⟩, ⟨0, .phase⟩, ⟨1, .phase⟩, ⟨2, .phase⟩, ⟨3, .phase⟩, ⟨4, .phase⟩, ⟨5, .phase⟩, ⟨6, .phase⟩, ⟨7, .phase⟩, ⟨8, .phase⟩, ⟨9, .phase⟩, ⟨10, .textOnly .appendInPlace⟩, ⟨11, .textOnly .appendInPlace⟩], none⟩) (v := ?_) rfl (by kernel_rfl) (fun _ _ _ h => h) (Or.inl ⟨by rfl, ?_⟩) ?_
        rotate_left
        ·intro w9; go_simp; try (with_reducible rfl)
        try simp only [Act.put, List.setIfInBounds_toArray, List.set]
        refine anyP_ready (rs := [11, 14]) (by kernel_rfl) (by simp) ?_
        refine ReadyP.cons (o := ⟨none, .store 32 (.tmp 77) (.tmp 73), 0, "tree.go:28", #[⟨10, .data⟩, ⟨6, .data⟩, ⟨9, .chain⟩, ⟨0, .phase⟩, ⟨1, .phase⟩, ⟨2, .phase⟩, ⟨3, .phase⟩, ⟨4, .phase⟩, ⟨5, .phase⟩, ⟨6, .phase⟩, ⟨7, .phase⟩, ⟨8, .phase⟩, ⟨9, .phase⟩, ⟨14, .gcOnly .appendInPlace⟩], none⟩) rfl (fun K hK => ?_) (ReadyP.cons (o := ⟨none, .store 30 (.tmp 79) (.tmp 76), 0, "tree.go:28", #[⟨13, .data⟩, ⟨9, .data⟩, ⟨9, .chain⟩, ⟨11, .textOnly .appendInPlace⟩, ⟨0, .phase⟩, ⟨1, .phase⟩, ⟨2, .phase⟩, ⟨3, .phase⟩, ⟨4, .phase⟩, ⟨5, .phase⟩, ⟨6, .phase⟩, ⟨7, .phase⟩, ⟨8, .phase⟩, ⟨9, .phase⟩, ⟨10, .textOnly .appendInPlace⟩, ⟨11, .textOnly .appendInPlace⟩], none⟩) rfl (fun K hK => ?_) ReadyP.nil)
        ·refine step_store rfl rfl 32 (.tmp 77) (.tmp 73) rfl _ (ndCells 0 ⟨k0, tx, ⟨p0, p1, p2⟩, fd⟩ (.slice none 0 0)) rfl rfl rfl infoNd8 (ndCells_one 0 ⟨k0, tx, ⟨p0, p1, p2⟩, fd⟩ rfl) HH1.out HF1.out ?_
         refine hK.out _ _ (fun h => absurd h (by decide)) ?_
         clear hK K
         generalize w1.setCells g1 (q * 8) (ndCells 0 ⟨k0, tx, ⟨p0, p1, p2⟩, fd⟩ (.slice none 0 0)) = w2x at HH2 HAH ⊢
         refine anyP_ready (rs := [14]) (by kernel_rfl) (by simp) ?_
         refine ReadyP.cons (o := ⟨none, .store 30 (.tmp 79) (.tmp 76), 0, "tree.go:28", #[⟨13, .data⟩, ⟨9, .data⟩, ⟨9, .chain⟩, ⟨11, .textOnly .appendInPlace⟩, ⟨0, .phase⟩, ⟨1, .phase⟩, ⟨2, .phase⟩, ⟨3, .phase⟩, ⟨4, .phase⟩, ⟨5, .phase⟩, ⟨6, .phase⟩, ⟨7, .phase⟩, ⟨8, .phase⟩, ⟨9, .phase⟩, ⟨10, .textOnly .appendInPlace⟩, ⟨11, .textOnly .appendInPlace⟩], none⟩) rfl (fun K hK => ?_) ReadyP.nil
         refine step_store rfl rfl 30 (.tmp 79) (.tmp 76) rfl _ [.slice (some ⟨g1, 0, none⟩) (q + 1) c1] rfl rfl rfl infoNdS (fun u hu => by rw [List.mem_singleton.1 hu]; rfl) HH2.out HF2.out ?_
         refine hK.out _ _ (fun h => absurd h (by decide)) ?_
         clear hK K
         refine anyP_done (by kernel_rfl) ?_ _
         clear HH1 HH2 HH3 HH4 HF1 HF2 HF3 HF4
         have HZ := HAH
         clear HAH HCH
         generalize w2x.setCells g (m * 8 + 7) [.slice (some ⟨g1, 0, none⟩) (q + 1) c1] = wf at HZ ⊢
         have HN : Hid (BInv w wf l (i + 1) (.slice (some ⟨g, 0, none⟩) (m + 1) cv) (addKid t ⟨0, ⟨k0, tx, ⟨p0, p1, p2⟩, fd⟩, []⟩ :: S')) := Lib.hid (by
          refine ⟨?_, H.out.small.add, (fun h => by cases h), ?_, HZ.out.2 _ _ (Nat.le_refl _) (HBI.out.trans (HRW.out.mono (by have h1 := HBI.out.size; simp only [World.size_alloc] at h1; omega)))⟩
          ·rw [← HDR.out]; simp [runB, HNO.out]
          ·have hz := HZ.out.1; rw [List.reverse_cons]; exact hz)
         clear HZ
         go_wp2
         go_roundw
         case rel => exact ⟨i + 1, _, by omega, by go_num, HN⟩
         case measure => simp [intOf]; omega
        ·refine step_store rfl rfl 30 (.tmp 79) (.tmp 76) rfl _ [.slice (some ⟨g1, 0, none⟩) (q + 1) c1] rfl rfl rfl infoNdS (fun u hu => by rw [List.mem_singleton.1 hu]; rfl) HH3.out HF3.out ?_
         refine hK.out _ _ (fun h => absurd h (by decide)) ?_
         clear hK K
         generalize w1.setCells g (m * 8 + 7) [.slice (some ⟨g1, 0, none⟩) (q + 1) c1] = w2x at HH4 HCH ⊢
         refine anyP_ready (rs := [11]) (by kernel_rfl) (by simp) ?_
         refine ReadyP.cons (o := ⟨none, .store 32 (.tmp 77) (.tmp 73), 0, "tree.go:28", #[⟨10, .data⟩, ⟨6, .data⟩, ⟨9, .chain⟩, ⟨0, .phase⟩, ⟨1, .phase⟩, ⟨2, .phase⟩, ⟨3, .phase⟩, ⟨4, .phase⟩, ⟨5, .phase⟩, ⟨6, .phase⟩, ⟨7, .phase⟩, ⟨8, .phase⟩, ⟨9, .phase⟩, ⟨14, .gcOnly .appendInPlace⟩], none⟩) rfl (fun K hK => ?_) ReadyP.nil
         refine step_store rfl rfl 32 (.tmp 77) (.tmp 73) rfl _ (ndCells 0 ⟨k0, tx, ⟨p0, p1, p2⟩, fd⟩ (.slice none 0 0)) rfl rfl rfl infoNd8 (ndCells_one 0 ⟨k0, tx, ⟨p0, p1, p2⟩, fd⟩ rfl) HH4.out HF4.out ?_
         refine hK.out _ _ (fun h => absurd h (by decide)) ?_
         clear hK K
         refine anyP_done (by kernel_rfl) ?_ _
         clear HH1 HH2 HH3 HH4 HF1 HF2 HF3 HF4
         have HZ := HCH
         clear HAH HCH
         generalize w2x.setCells g1 (q * 8) (ndCells 0 ⟨k0, tx, ⟨p0, p1, p2⟩, fd⟩ (.slice none 0 0)) = wf at HZ ⊢
         have HN : Hid (BInv w wf l (i + 1) (.slice (some ⟨g, 0, none⟩) (m + 1) cv) (addKid t ⟨0, ⟨k0, tx, ⟨p0, p1, p2⟩, fd⟩, []⟩ :: S')) := Lib.hid (by
          refine ⟨?_, H.out.small.add, (fun h => by cases h), ?_, HZ.out.2 _ _ (Nat.le_refl _) (HBI.out.trans (HRW.out.mono (by have h1 := HBI.out.size; simp only [World.size_alloc] at h1; omega)))⟩
          ·rw [← HDR.out]; simp [runB, HNO.out]
          ·have hz := HZ.out.1; rw [List.reverse_cons]; exact hz)
         clear HZ
         go_wp2
         go_roundw
         case rel => exact ⟨i + 1, _, by omega, by go_num, HN⟩
         case measure => simp [intOf]; omega
     ·have dk4 : (k == 4) = false := beq_eq_false_iff_ne.2 hk4
      by_cases hk3 : k = 3
      ·subst hk3
       by_cases hS : S = []
       ·subst hS
        have hsl0 : sl = 0 := HSL.out.symm
        subst hsl0
        have hbx : ∀ w1, Below (wr.heap.size + 1) (wr.alloc (.cells #[.int .u8 3, .int .u8 nd, .int .u8 k0, .string tx, .int .i64 p0, .int .i64 p1, .int .i64 p2, .int .i64 fd] 48)) w1 → _ := fun w1 h => box8 h
        have hbo := H.out.out
        have hbi := H.out.below
        obtain ⟨W1, hW1⟩ : ∃ W1, wr.alloc (.cells #[.int .u8 3, .int .u8 nd, .int .u8 k0, .string tx, .int .i64 p0, .int .i64 p1, .int .i64 p2, .int .i64 fd] 48) = W1 := ⟨_, rfl⟩
        have hs1 : W1.heap.size = wr.heap.size + 1 := by rw [← hW1, World.size_alloc]
        have hb1 : Below wr.heap.size wr W1 := by rw [← hW1]; exact (Below.refl wr.heap.size wr).alloc (Nat.le_refl _) _
        rw [hW1] at hbx
        have HS1 := Lib.hid hs1
        have HBY := Lib.hid hbx
        have HW1 := Lib.hid hW1
        have HB1 := Lib.hid hb1
        have HBI := Lib.hid hbi
        have hbox := Lib.hid (box_later HBX.out hb1)
        have hout := Lib.hid (hbo.trans (hb1.mono hbo.size))
        have HSZ : Hid (w.heap.size + 1 ≤ wr.heap.size) := Lib.hid (by have h := hbi.size; simp only [World.size_alloc] at h; exact h)
        clear hs1 hbx hW1 hb1 hbo hbi
        go_upto_region 7 with (fail)
        rw [HW1.out]
        obtain ⟨y0, y1, y2, y3, y4, y5, y6, y7⟩ := HBY.out W1 (Below.refl _ _)
        go_wp2
        go_quiet (fail)
        have HRN : Hid (runB l [] = none) := Lib.hid (by rw [← HDR.out]; simp [runB])
        go_wp2_with ((with_reducible refine gate_ (.store 32 (.tmp 2) (.tmp 97)) rfl ?_); refine wl_box rfl rfl _ _ _ rfl (.agg zNd.toArray) zNd rfl rfl rfl infoNd8 zNd_one hbox.out rfl ?_; intro w5 h5 hu; have H5 := Lib.hid (hu.below (pw_below_drewN hout.out _) (Nat.le_refl _)); clear hu; obtain ⟨c0, c1, c2, c3, c4, c5, c6, c7⟩ := cells8 h5; clear h5)
        refine bodyPost_ret (v := .tuple #[.agg zNd.toArray, .int .i64 130]) ?_ rfl (BuildPost.err HRN.out H5.out)
        rw [results_cell_tmp rfl]
        go_simp
        try rfl
       ·obtain ⟨t, S', rfl⟩ : ∃ t S', S = t :: S' := List.exists_cons_of_ne_nil hS
        by_cases hkd : t.f0 = nd
        ·have dne : (t.f0 != nd) = false := bne_eq_false_iff_eq.2 hkd
         have HKD := Lib.hid hkd
         clear hS
         have hown := H.out.own
         rw [List.reverse_cons] at hown
         obtain ⟨g, cap, u, hgu, htx⟩ := tops_of hown
         rw [List.length_reverse] at hgu
         have hsS : S'.length + 1 = sl := HSL.out
         rw [hsS] at hgu
         injection hgu with hg1 _ hg3
         subst hg1; subst hg3
         obtain ⟨m, rfl⟩ : ∃ m, sl = m + 1 := ⟨S'.length, hsS.symm⟩
         obtain ⟨Au, cu, hu⟩ := top_slice htx
         subst hu
         obtain ⟨cells, G1, G2, kc, Gk, hX⟩ := htx.top
         have hcap := topsX_cap hX
         rw [List.length_reverse] at hcap
         have HX0 := Lib.hid hX
         have HM0 : Hid (S'.reverse.length = m) := Lib.hid (by rw [List.length_reverse]; omega)
         have hcap1 : m + 1 ≤ cv := by omega
         have hcap2 : (m : Int) ≤ (cv : Int) := by omega
         have dm : ((m : Int) + 1 == 0) = false := beq_eq_false_iff_ne.2 (by omega)
         have bm1 : (0 : Int) ≤ (m : Int) := by omega
         have bm2 : (m : Int) < (m : Int) + 1 := by omega
         have hq : t.f2.length ≤ i := H.out.small.2 t List.mem_cons_self
         have HQI := Lib.hid hq
         clear hown htx hX hsS hcap hq
         have hbx : ∀ w1, Below (wr.heap.size + 1) (wr.alloc (.cells #[.int .u8 3, .int .u8 nd, .int .u8 k0, .string tx, .int .i64 p0, .int .i64 p1, .int .i64 p2, .int .i64 fd] 48)) w1 → _ := fun w1 h => box8 h
         have hbo := H.out.out
         have hbi := H.out.below
         obtain ⟨W1, hW1⟩ : ∃ W1, wr.alloc (.cells #[.int .u8 3, .int .u8 nd, .int .u8 k0, .string tx, .int .i64 p0, .int .i64 p1, .int .i64 p2, .int .i64 fd] 48) = W1 := ⟨_, rfl⟩
         have hs1 : W1.heap.size = wr.heap.size + 1 := by rw [← hW1, World.size_alloc]
         have hb1 : Below wr.heap.size wr W1 := by rw [← hW1]; exact (Below.refl wr.heap.size wr).alloc (Nat.le_refl _) _
         rw [hW1] at hbx
         have HS1 := Lib.hid hs1
         have HBY := Lib.hid hbx
         have HW1 := Lib.hid hW1
         have HB1 := Lib.hid hb1
         have HBI := Lib.hid hbi
         have hbox := Lib.hid (box_later HBX.out hb1)
         have hout := Lib.hid (hbo.trans (hb1.mono hbo.size))
         have HSZ : Hid (w.heap.size + 1 ≤ wr.heap.size) := Lib.hid (by have h := hbi.size; simp only [World.size_alloc] at h; exact h)
         clear hs1 hbx hW1 hb1 hbo hbi
         go_upto_region 7 with (fail)
         rw [HW1.out]
         obtain ⟨y0, y1, y2, y3, y4, y5, y6, y7⟩ := HBY.out W1 (Below.refl _ _)
         have HXW : Hid (TopsX W1 (w.heap.size + 1) g cv S'.reverse t (.slice Au t.f2.length cu) (fun _ => True) cells G1 G2 kc Gk) := Lib.hid (topsX_later HX0.out HB1.out)
         have z0 : W1.cell? ⟨g, m * 8, none⟩ = some (.int .u8 t.f0) := by have h := (topsX_at HXW.out 0 _ rfl).1; rw [HM0.out] at h; exact h
         have z1 : W1.cell? ⟨g, m * 8 + 1, none⟩ = some (.int .u8 t.f1.f0) := by have h := (topsX_at HXW.out 1 _ rfl).1; rw [HM0.out] at h; exact h
         have z2 : W1.cell? ⟨g, m * 8 + 2, none⟩ = some (.string t.f1.f1) := by have h := (topsX_at HXW.out 2 _ rfl).1; rw [HM0.out] at h; exact h
         have z3 : W1.cell? ⟨g, m * 8 + 3, none⟩ = some (.int .i64 t.f1.f2.f0) := by have h := (topsX_at HXW.out 3 _ rfl).1; rw [HM0.out] at h; exact h
         have z4 : W1.cell? ⟨g, m * 8 + 4, none⟩ = some (.int .i64 t.f1.f2.f1) := by have h := (topsX_at HXW.out 4 _ rfl).1; rw [HM0.out] at h; exact h
         have z5 : W1.cell? ⟨g, m * 8 + 5, none⟩ = some (.int .i64 t.f1.f2.f2) := by have h := (topsX_at HXW.out 5 _ rfl).1; rw [HM0.out] at h; exact h
         have z6 : W1.cell? ⟨g, m * 8 + 6, none⟩ = some (.int .i64 t.f1.f3) := by have h := (topsX_at HXW.out 6 _ rfl).1; rw [HM0.out] at h; exact h
         have z7 : W1.cell? ⟨g, m * 8 + 7, none⟩ = some (.slice Au t.f2.length cu) := by have h := (topsX_at HXW.out 7 _ rfl).1; rw [HM0.out] at h; exact h
         clear hkd
         go_wp2
         go_quiet (fail)
         rename_i nq
         obtain ⟨W2, hW2⟩ : ∃ W2, W1.drewN nq = W2 := ⟨_, rfl⟩
         have hb2 : Below W1.heap.size W1 W2 := by rw [← hW2]; exact pw_below_drewN (Below.refl _ _) nq
         have HB2 := Lib.hid hb2
         have hs2 : W2.heap.size = W1.heap.size := by rw [← hW2]; rfl
         have HS2 := Lib.hid hs2
         rw [hW2]
         have hbox2 := Lib.hid ((hb2.block _ (blk_lt hbox.out)).trans hbox.out)
         have hout2 := Lib.hid (hout.out.trans (hb2.mono hout.out.size))
         clear hb2 hs2 hW2
         clear z0 z1 z2 z3 z4 z5 z6 z7
         have HXV : Hid (TopsX W2 (w.heap.size + 1) g cv S'.reverse t (.slice Au t.f2.length cu) (fun _ => True) cells G1 G2 kc Gk) := Lib.hid (topsX_later HXW.out HB2.out)
         have z0 : W2.cell? ⟨g, m * 8, none⟩ = some (.int .u8 t.f0) := by have h := (topsX_at HXV.out 0 _ rfl).1; rw [HM0.out] at h; exact h
         have z1 : W2.cell? ⟨g, m * 8 + 1, none⟩ = some (.int .u8 t.f1.f0) := by have h := (topsX_at HXV.out 1 _ rfl).1; rw [HM0.out] at h; exact h
         have z2 : W2.cell? ⟨g, m * 8 + 2, none⟩ = some (.string t.f1.f1) := by have h := (topsX_at HXV.out 2 _ rfl).1; rw [HM0.out] at h; exact h
         have z3 : W2.cell? ⟨g, m * 8 + 3, none⟩ = some (.int .i64 t.f1.f2.f0) := by have h := (topsX_at HXV.out 3 _ rfl).1; rw [HM0.out] at h; exact h
         have z4 : W2.cell? ⟨g, m * 8 + 4, none⟩ = some (.int .i64 t.f1.f2.f1) := by have h := (topsX_at HXV.out 4 _ rfl).1; rw [HM0.out] at h; exact h
         have z5 : W2.cell? ⟨g, m * 8 + 5, none⟩ = some (.int .i64 t.f1.f2.f2) := by have h := (topsX_at HXV.out 5 _ rfl).1; rw [HM0.out] at h; exact h
         have z6 : W2.cell? ⟨g, m * 8 + 6, none⟩ = some (.int .i64 t.f1.f3) := by have h := (topsX_at HXV.out 6 _ rfl).1; rw [HM0.out] at h; exact h
         have z7 : W2.cell? ⟨g, m * 8 + 7, none⟩ = some (.slice Au t.f2.length cu) := by have h := (topsX_at HXV.out 7 _ rfl).1; rw [HM0.out] at h; exact h
         have hby : ∀ w1, Below (W2.heap.size + 1) (W2.alloc (.cells #[.int .u8 t.f0, .int .u8 t.f1.f0, .string t.f1.f1, .int .i64 t.f1.f2.f0, .int .i64 t.f1.f2.f1, .int .i64 t.f1.f2.f2, .int .i64 t.f1.f3, .slice Au t.f2.length cu] TN)) w1 → _ := fun w1 h => box8 h
         obtain ⟨W3, hW3⟩ : ∃ W3, W2.alloc (.cells #[.int .u8 t.f0, .int .u8 t.f1.f0, .string t.f1.f1, .int .i64 t.f1.f2.f0, .int .i64 t.f1.f2.f1, .int .i64 t.f1.f2.f2, .int .i64 t.f1.f3, .slice Au t.f2.length cu] TN) = W3 := ⟨_, rfl⟩
         have hs3 : W3.heap.size = W2.heap.size + 1 := by rw [← hW3, World.size_alloc]
         have hb3 : Below W2.heap.size W2 W3 := by rw [← hW3]; exact (Below.refl W2.heap.size W2).alloc (Nat.le_refl _) _
         rw [hW3] at hby
         have HBZ := Lib.hid hby
         have HW3 := Lib.hid hW3
         have HB3 := Lib.hid hb3
         have HS3 := Lib.hid hs3
         have hbox3 := Lib.hid ((hb3.block _ (blk_lt hbox2.out)).trans hbox2.out)
         have hout3 := Lib.hid (hout2.out.trans (hb3.mono hout2.out.size))
         have HXY : Hid (TopsX W3 (w.heap.size + 1) g cv S'.reverse t (.slice Au t.f2.length cu) (fun _ => True) cells G1 G2 kc Gk) := Lib.hid (topsX_later HXV.out hb3)
         clear hby hW3 hb3 hs3
         go_upto_region 21 with (fail)
         rw [HW3.out]
         clear z0 z1 z2 z3 z4 z5 z6 z7
         obtain ⟨x0, x1, x2, x3, x4, x5, x6, x7⟩ := HBZ.out W3 (Below.refl _ _)
         by_cases hS1 : S' = []
         ·subst hS1
          have hm0 : m = 0 := HM0.out.symm
          subst hm0
          by_cases hlast : i + 1 < n
          ·have dl : decide ((i : Int) + 1 < (n : Int)) = true := decide_eq_true (by omega)
           have dl2 : decide (i + 1 < n) = true := decide_eq_true hlast
           have HRN : Hid (runB l [] = none) := Lib.hid (by rw [← HDR.out]; simp [runB, HKD.out]; have := HL.out; omega)
           go_wp2_with ((with_reducible refine gate_ (.store 32 (.tmp 2) (.tmp 117)) rfl ?_); refine wl_box rfl rfl _ _ _ rfl (.agg zNd.toArray) zNd rfl rfl rfl infoNd8 zNd_one hbox3.out rfl ?_; intro w5 h5 hu; have H5 := Lib.hid (hu.below hout3.out (Nat.le_refl _)); clear hu; obtain ⟨c0, c1, c2, c3, c4, c5, c6, c7⟩ := cells8 h5; clear h5)
           refine bodyPost_ret (v := .tuple #[.agg zNd.toArray, .int .i64 130]) ?_ rfl (BuildPost.err HRN.out H5.out)
           rw [results_cell_tmp rfl]
           go_simp
           try rfl
          ·have dl : decide ((i : Int) + 1 < (n : Int)) = false := decide_eq_false (by omega)
           have dl2 : decide (i + 1 < n) = false := decide_eq_false hlast
           have HRN : Hid (runB l [] = some t) := Lib.hid (by rw [← HDR.out]; have h2 : l.drop (i + 1) = [] := List.drop_of_length_le (by have := HL.out; omega); simp [runB, HKD.out, h2])
           go_wp2_with ((with_reducible refine gate_ (.store 32 (.tmp 2) (.tmp 118)) rfl ?_); refine wl_box rfl rfl _ _ _ rfl (.agg #[.int .u8 t.f0, .int .u8 t.f1.f0, .string t.f1.f1, .int .i64 t.f1.f2.f0, .int .i64 t.f1.f2.f1, .int .i64 t.f1.f2.f2, .int .i64 t.f1.f3, .slice Au t.f2.length cu]) (ndCells t.f0 t.f1 (.slice Au t.f2.length cu)) rfl rfl rfl infoNd8 (ndCells_one _ _ rfl) hbox3.out rfl ?_; intro w5 h5 hu; have H5 := Lib.hid (hu.below hout3.out (Nat.le_refl _)); have HO5 := Lib.hid (ownS_mono (ownS_upd (top_ownS HXY.out) hu (Nat.lt_succ_self _)) (fun _ _ => trivial)); clear hu; obtain ⟨c0, c1, c2, c3, c4, c5, c6, c7⟩ := cells8 h5; clear h5)
           refine bodyPost_ret (v := .tuple #[.agg #[.int .u8 t.f0, .int .u8 t.f1.f0, .string t.f1.f1, .int .i64 t.f1.f2.f0, .int .i64 t.f1.f2.f1, .int .i64 t.f1.f2.f2, .int .i64 t.f1.f3, .slice Au t.f2.length cu], .int .i64 0]) ?_ rfl (BuildPost.ok HRN.out HO5.out H5.out)
           rw [results_cell_tmp rfl]
           go_simp
           try rfl
         ·obtain ⟨u2, S2, rfl⟩ : ∃ u2 S2, S' = u2 :: S2 := List.exists_cons_of_ne_nil hS1
          clear hS1
          obtain ⟨p, rfl⟩ : ∃ p, m = p + 1 := ⟨S2.length, by have := HM0.out; rw [List.length_reverse] at this; simp only [List.length_cons] at this; omega⟩
          have HPM : Hid (S2.reverse.length = p) := Lib.hid (by have := HM0.out; rw [List.length_reverse] at this ⊢; simp only [List.length_cons] at this; omega)
          obtain ⟨uu, cells', G1', G2', kc', Gk', hX'⟩ := popped HXY.out (List.reverse_cons : (u2 :: S2).reverse = S2.reverse ++ [u2])
          obtain ⟨A2, c2, he2⟩ := own_slice hX'.krow
          subst he2
          obtain ⟨q2, hq2⟩ : ∃ q2, u2.f2.length = q2 := ⟨_, rfl⟩
          have hqi : q2 ≤ i := by rw [← hq2]; exact H.out.small.2 u2 (List.mem_cons_of_mem _ List.mem_cons_self)
          have HQ := Lib.hid hq2
          rw [hq2] at hX'
          have HXU := Lib.hid hX'
          have dp : ((p : Int) + 1 == 0) = false := beq_eq_false_iff_ne.2 (by omega)
          have hp9 : p ≤ 998 := by have := HSL.out; have h2 := H.out.small.1; simp only [List.length_cons] at *; have h3 := HPM.out; rw [List.length_reverse] at h3; omega
          clear hX' hq2 dm bm1 bm2
          go_wp2
          have hbd : Below (W2.heap.size + 1) W3 W3.drew := (Below.refl _ _).drew
          have HBD := Lib.hid hbd
          obtain ⟨W, hWd⟩ : ∃ W, W3.drew = W := ⟨_, rfl⟩
          have HWd := Lib.hid hWd
          have HBW : Hid (Below (W2.heap.size + 1) W3 W) := Lib.hid (by rw [← hWd]; exact hbd)
          have HS4 : Hid (W.heap.size = W3.heap.size) := Lib.hid (by rw [← hWd]; rfl)
          have k3 := HBZ.out W HBW.out
          have hb4 : Below W3.heap.size W3 W := by rw [← hWd]; exact (Below.refl _ _).drew
          have HX : Hid (TopsX W (w.heap.size + 1) g cv S2.reverse u2 (.slice A2 q2 c2) (fun b => b = g ∨ G1 b) cells' G1' G2' kc' Gk') := Lib.hid (topsX_later HXU.out hb4)
          have HXX : Hid (Own W (w.heap.size + 1) t (ndCells t.f0 t.f1 (.slice Au t.f2.length cu)) G2) := Lib.hid (own_below (top_own HXY.out) hb4)
          have HBW4 := Lib.hid (hout3.out.trans (hb4.mono hout3.out.size))
          clear hbd hWd hb4
          have HKR : Hid (W.ownsRow (w.heap.size + 1) TN 8 (.slice A2 q2 c2) q2 kc') := Lib.hid (by have h := HX.out.krow; rw [HQ.out] at h; exact h)
          have HBA : Hid (w.heap.size + 1 ≤ W.heap.size) := Lib.hid (by have h1 := HSZ.out; have h2 := HS1.out; have h3 := HS2.out; have h4 := HS3.out; have h5 := HS4.out; omega)
          have HBI4 : Hid (Below (w.heap.size + 1) (zBox w) W) := Lib.hid (HBI.out.trans ((HB1.out.trans ((HB2.out.trans ((HB3.out.trans (HBW.out.mono (Nat.le_succ _))).mono (Nat.le_of_eq HS2.out.symm))).mono (by have := HS1.out; omega))).mono HSZ.out))
          have HQ8 : Hid ((q2 + 1) * 88 ≤ 140737488355328) := Lib.hid (by omega)
          have HKL : Hid (kc'.length = q2 * 8) := Lib.hid (by rw [← HQ.out]; exact ownL_len HX.out.kids)
          have HCL : Hid (cells'.length = p * 8) := Lib.hid (by rw [← HPM.out]; exact ownL_len HX.out.rest)
          have HCL7 : Hid ((cells' ++ ndPre u2.f0 u2.f1).length = p * 8 + 7) := Lib.hid (by rw [List.length_append, HCL.out]; rfl)
          have HM := HPM
          have k7 : W.cell? ⟨g, p * 8 + 7, none⟩ = some (.slice A2 q2 c2) := by have h := (topsX_at HX.out 7 _ rfl).1; rw [HM.out] at h; exact h
          have HSA : Hid (∀ w', Below W.heap.size W w' → w'.cell? ⟨g, p * 8 + 7, none⟩ = some (.slice A2 q2 c2) ∧ w'.cell? ⟨W2.heap.size, 0, none⟩ = some (.int .u8 t.f0) ∧ w'.cell? ⟨W2.heap.size, 1, none⟩ = some (.int .u8 t.f1.f0) ∧ w'.cell? ⟨W2.heap.size, 2, none⟩ = some (.string t.f1.f1) ∧ w'.cell? ⟨W2.heap.size, 3, none⟩ = some (.int .i64 t.f1.f2.f0) ∧ w'.cell? ⟨W2.heap.size, 4, none⟩ = some (.int .i64 t.f1.f2.f1) ∧ w'.cell? ⟨W2.heap.size, 5, none⟩ = some (.int .i64 t.f1.f2.f2) ∧ w'.cell? ⟨W2.heap.size, 6, none⟩ = some (.int .i64 t.f1.f3) ∧ w'.cell? ⟨W2.heap.size, 7, none⟩ = some (.slice Au t.f2.length cu)) := Lib.hid fun w' hb => ⟨(hb.cell (World.block_lt_of_cell? W _ k7)).trans k7, HBZ.out w' (HBW.out.trans (hb.mono (by have h4 := HS3.out; have h5 := HS4.out; omega)))⟩
          refine wp_region_P (fun w' => w'.cell? ⟨g, p * 8 + 7, none⟩ = some (.slice A2 q2 c2) ∧ w'.cell? ⟨W2.heap.size, 0, none⟩ = some (.int .u8 t.f0) ∧ w'.cell? ⟨W2.heap.size, 1, none⟩ = some (.int .u8 t.f1.f0) ∧ w'.cell? ⟨W2.heap.size, 2, none⟩ = some (.string t.f1.f1) ∧ w'.cell? ⟨W2.heap.size, 3, none⟩ = some (.int .i64 t.f1.f2.f0) ∧ w'.cell? ⟨W2.heap.size, 4, none⟩ = some (.int .i64 t.f1.f2.f1) ∧ w'.cell? ⟨W2.heap.size, 5, none⟩ = some (.int .i64 t.f1.f2.f2) ∧ w'.cell? ⟨W2.heap.size, 6, none⟩ = some (.int .i64 t.f1.f3) ∧ w'.cell? ⟨W2.heap.size, 7, none⟩ = some (.slice Au t.f2.length cu)) (fun j => Nat.ble j 6) (by kernel_rfl) ?_
          have HS : Hid (W.cell? ⟨g, p * 8 + 7, none⟩ = some (.slice A2 q2 c2) ∧ W.cell? ⟨W2.heap.size, 0, none⟩ = some (.int .u8 t.f0) ∧ W.cell? ⟨W2.heap.size, 1, none⟩ = some (.int .u8 t.f1.f0) ∧ W.cell? ⟨W2.heap.size, 2, none⟩ = some (.string t.f1.f1) ∧ W.cell? ⟨W2.heap.size, 3, none⟩ = some (.int .i64 t.f1.f2.f0) ∧ W.cell? ⟨W2.heap.size, 4, none⟩ = some (.int .i64 t.f1.f2.f1) ∧ W.cell? ⟨W2.heap.size, 5, none⟩ = some (.int .i64 t.f1.f2.f2) ∧ W.cell? ⟨W2.heap.size, 6, none⟩ = some (.int .i64 t.f1.f3) ∧ W.cell? ⟨W2.heap.size, 7, none⟩ = some (.slice Au t.f2.length cu)) := Lib.hid ⟨k7, k3⟩
          rw [HWd.out]
          refine anyP_take (i := 0) (oi := ⟨some 124, .move (.tmp 9), 84, "tree.go:42", #[], none⟩) (v := ?_) rfl (by kernel_rfl) (fun _ _ _ h => h) (Or.inl ⟨by rfl, ?_⟩) HS.out ?_
          rotate_left
          ·intro x h; (try dsimp only at h); go_simp; try (with_reducible rfl)
          try simp only [Act.put, List.setIfInBounds_toArray, List.set]
          refine anyP_take (i := 1) (oi := ⟨some 125, .nilCheck (.tmp 124), 0, "tree.go:42", #[⟨0, .data⟩], none⟩) (v := ?_) rfl (by kernel_rfl) (fun _ _ _ h => h) (Or.inl ⟨by rfl, ?_⟩) HS.out ?_
          rotate_left
          ·intro x h; (try dsimp only at h); go_simp; try (with_reducible rfl)
          try simp only [Act.put, List.setIfInBounds_toArray, List.set]
          refine anyP_take (i := 2) (oi := ⟨some 126, .fieldAddr 32 (.tmp 125) 2, 0, "tree.go:42", #[⟨1, .data⟩], none⟩) (v := ?_) rfl (by kernel_rfl) (fun _ _ _ h => h) (Or.inl ⟨by rfl, ?_⟩) HS.out ?_
          rotate_left
          ·intro x h; (try dsimp only at h); go_simp; try (with_reducible rfl)
          try simp only [Act.put, List.setIfInBounds_toArray, List.set]
          refine anyP_take (i := 3) (oi := ⟨some 127, .load 30 (.tmp 126), 30, "tree.go:42", #[⟨2, .data⟩], none⟩) (v := ?_) rfl (by kernel_rfl) (fun _ _ _ h => h) (Or.inl ⟨by rfl, ?_⟩) HS.out ?_
          rotate_left
          ·intro x h; (try dsimp only at h); go_simp; try (with_reducible rfl)
          try simp only [Act.put, List.setIfInBounds_toArray, List.set]
          refine anyP_take (i := 4) (oi := ⟨some 128, .load 32 (.tmp 8), 32, "tree.go:42", #[], none⟩) (v := ?_) rfl (by kernel_rfl) (fun _ _ _ h => h) (Or.inl ⟨by rfl, ?_⟩) HS.out ?_
          rotate_left
          ·intro x h; (try dsimp only at h); go_simp; try (with_reducible rfl)
          try simp only [Act.put, List.setIfInBounds_toArray, List.set]
          refine anyP_take (i := 5) (oi := ⟨some 129, .call { callee := .builtin .len, args := #[.tmp 127], argTypes := #[30] }, 3, "tree.go:42", #[⟨3, .data⟩], none⟩) (v := ?_) rfl (by kernel_rfl) (fun _ _ _ h => h) (Or.inl ⟨by rfl, ?_⟩) HS.out ?_
          rotate_left
          ·intro x h; (try dsimp only at h); go_simp; try (with_reducible rfl)
          try simp only [Act.put, List.setIfInBounds_toArray, List.set]
          refine anyP_ready (rs := [6]) (by kernel_rfl) (by simp) ?_
          refine ReadyP.cons (o := ⟨some 130, .buildSlice 30 1 #[(0, .const (.agg #[.int .u8 0, .int .u8 0, .string { data := #[] }, .int .i64 0, .int .i64 0, .int .i64 0, .int .i64 0, .slice none 0 0]))], 30, "tree.go:42", #[], none⟩) rfl (fun K hK => ?_) ReadyP.nil
          go_simp
          refine hK.out _ _ (fun _ => ?_) ?_
          ·exact HSA.out _ (Below.refl W.heap.size W |>.alloc (Nat.le_refl _) _)
          clear hK K
          try simp only [Act.put, List.setIfInBounds_toArray, List.set]
          refine anyP_ready (rs := [7]) (by kernel_rfl) (by simp) ?_
          refine ReadyP.cons (o := ⟨some 131, .call { callee := .builtin .append, args := #[.tmp 127, .tmp 130], argTypes := #[30, 30] }, 30, "tree.go:42", #[⟨3, .data⟩, ⟨6, .data⟩, ⟨0, .phase⟩, ⟨1, .phase⟩, ⟨2, .phase⟩, ⟨3, .phase⟩, ⟨4, .phase⟩, ⟨5, .phase⟩, ⟨6, .phase⟩], none⟩) rfl (fun K hK => ?_) ReadyP.nil
          refine step_kid rfl (.tmp 127) (.tmp 130) rfl (w.heap.size + 1) (cs := zNd) rfl rfl HKR.out rfl zNd_one HBA.out HQ8.out ?_
          intro g1 c1 w1 ho hg hat
          refine hK.out _ _ (fun h => absurd h (by decide)) ?_
          clear hK K
          try simp only [Act.put, List.setIfInBounds_toArray, List.set]
          have hr := row_grown HX.out hg
          have hne := g_ne HX.out hat
          rw [HM.out] at hr
          obtain ⟨cur1, hh1, hf1⟩ := (row_set_end ho (q2 * 8) (ndCells t.f0 t.f1 (.slice Au t.f2.length cu)) HKL.out rfl).2
          have hr' := hr
          rw [ndCells_pre, ← List.append_assoc] at hr'
          obtain ⟨cur2, hh2, hf2⟩ := (row_set_end (far_row hr' hne (q2 * 8) (ndCells t.f0 t.f1 (.slice Au t.f2.length cu))) (p * 8 + 7) [.slice (some ⟨g1, 0, none⟩) (q2 + 1) c1] HCL7.out rfl).2
          obtain ⟨cur3, hh3, hf3⟩ := (row_set_end hr' (p * 8 + 7) [.slice (some ⟨g1, 0, none⟩) (q2 + 1) c1] HCL7.out rfl).2
          obtain ⟨cur4, hh4, hf4⟩ := (row_set_end (far_row ho (Ne.symm hne) (p * 8 + 7) [.slice (some ⟨g1, 0, none⟩) (q2 + 1) c1]) (q2 * 8) (ndCells t.f0 t.f1 (.slice Au t.f2.length cu)) HKL.out rfl).2
          have HA := added HX.out HXX.out (fun b hb hc => (HX.out.f1 b hc).elim (fun h => HXY.out.n2 (h ▸ hb)) (fun h => HXY.out.apart b h hb)) (fun b hb hc => (HX.out.f2 b hc).elim (fun h => HXY.out.n2 (h ▸ hb)) (fun h => HXY.out.apart b h hb)) HXY.out.n2 hg hat HM.out HQ.out (two_a (zs := zNd) hr HCL.out ho HKL.out rfl rfl hne)
          have HC := added HX.out HXX.out (fun b hb hc => (HX.out.f1 b hc).elim (fun h => HXY.out.n2 (h ▸ hb)) (fun h => HXY.out.apart b h hb)) (fun b hb hc => (HX.out.f2 b hc).elim (fun h => HXY.out.n2 (h ▸ hb)) (fun h => HXY.out.apart b h hb)) HXY.out.n2 hg hat HM.out HQ.out (two_b (zs := zNd) hr HCL.out ho HKL.out rfl rfl hne)
          have HAH := Lib.hid HA
          have HCH := Lib.hid HC
          have HH1 := Lib.hid hh1
          have HF1 := Lib.hid hf1
          have HH2 := Lib.hid hh2
          have HF2 := Lib.hid hf2
          have HH3 := Lib.hid hh3
          have HF3 := Lib.hid hf3
          have HH4 := Lib.hid hh4
          have HF4 := Lib.hid hf4
          clear HA HC hh1 hf1 hh2 hf2 hh3 hf3 hh4 hf4 hr hr' ho hg hat hne
          have hqq : (q2 : Int) < (q2 : Int) + 1 := by omega
          refine anyP_take0 (i := 8) (oi := ⟨some 132, .indexAddr 30 (.tmp 131) (.tmp 129), 0, "tree.go:42", #[⟨7, .data⟩, ⟨5, .data⟩, ⟨0, .phase⟩, ⟨1, .phase⟩, ⟨2, .phase⟩, ⟨3, .phase⟩, ⟨4, .phase⟩, ⟨5, .phase⟩, ⟨6, .phase⟩, ⟨7, .phase⟩, ⟨12, .gcOnly .appendInPlace⟩], none⟩) (v := ?_) rfl (by kernel_rfl) (fun _ _ _ h => h) (Or.inl ⟨by rfl, ?_⟩) ?_
          rotate_left
          ·intro w9; go_simp; try (with_reducible rfl)
          try simp only [Act.put, List.setIfInBounds_toArray, List.set]
          refine anyP_take0 (i := 10) (oi := ⟨some 133, .nilCheck (.tmp 124), 0, "tree.go:42", #[⟨0, .data⟩, ⟨0, .phase⟩, ⟨1, .phase⟩, ⟨2, .phase⟩, ⟨3, .phase⟩, ⟨4, .phase⟩, ⟨5, .phase⟩, ⟨6, .phase⟩, ⟨7, .phase⟩, ⟨8, .textOnly .appendInPlace⟩, ⟨9, .textOnly .appendInPlace⟩], none⟩) (v := ?_) rfl (by kernel_rfl) (fun _ _ _ h => h) (Or.inl ⟨by rfl, ?_⟩) ?_
          rotate_left
          ·intro w9; go_simp; try (with_reducible rfl)
          try simp only [Act.put, List.setIfInBounds_toArray, List.set]
          refine anyP_take0 (i := 11) (oi := ⟨some 134, .fieldAddr 32 (.tmp 133) 2, 0, "tree.go:42", #[⟨10, .data⟩, ⟨0, .phase⟩, ⟨1, .phase⟩, ⟨2, .phase⟩, ⟨3, .phase⟩, ⟨4, .phase⟩, ⟨5, .phase⟩, ⟨6, .phase⟩, ⟨7, .phase⟩, ⟨8, .textOnly .appendInPlace⟩, ⟨9, .textOnly .appendInPlace⟩], none⟩) (v := ?_) rfl (by kernel_rfl) (fun _ _ _ h => h) (Or.inl ⟨by rfl, ?_⟩) ?_
          rotate_left
          ·intro w9; go_simp; try (with_reducible rfl)
          try simp only [Act.put, List.setIfInBounds_toArray, List.set]
          refine anyP_ready (rs := [9, 12]) (by kernel_rfl) (by simp) ?_
          refine ReadyP.cons (o := ⟨none, .store 32 (.tmp 132) (.tmp 128), 0, "tree.go:42", #[⟨8, .data⟩, ⟨4, .data⟩, ⟨7, .chain⟩, ⟨0, .phase⟩, ⟨1, .phase⟩, ⟨2, .phase⟩, ⟨3, .phase⟩, ⟨4, .phase⟩, ⟨5, .phase⟩, ⟨6, .phase⟩, ⟨7, .phase⟩, ⟨12, .gcOnly .appendInPlace⟩], none⟩) rfl (fun K hK => ?_) (ReadyP.cons (o := ⟨none, .store 30 (.tmp 134) (.tmp 131), 0, "tree.go:42", #[⟨11, .data⟩, ⟨7, .data⟩, ⟨7, .chain⟩, ⟨9, .textOnly .appendInPlace⟩, ⟨0, .phase⟩, ⟨1, .phase⟩, ⟨2, .phase⟩, ⟨3, .phase⟩, ⟨4, .phase⟩, ⟨5, .phase⟩, ⟨6, .phase⟩, ⟨7, .phase⟩, ⟨8, .textOnly .appendInPlace⟩, ⟨9, .textOnly .appendInPlace⟩], none⟩) rfl (fun K hK => ?_) ReadyP.nil)
          ·refine step_store rfl rfl 32 (.tmp 132) (.tmp 128) rfl _ (ndCells t.f0 t.f1 (.slice Au t.f2.length cu)) rfl rfl rfl infoNd8 (ndCells_one _ _ rfl) HH1.out HF1.out ?_
           refine hK.out _ _ (fun h => absurd h (by decide)) ?_
           clear hK K
           generalize w1.setCells g1 (q2 * 8) (ndCells t.f0 t.f1 (.slice Au t.f2.length cu)) = w2x at HH2 HAH ⊢
           refine anyP_ready (rs := [12]) (by kernel_rfl) (by simp) ?_
           refine ReadyP.cons (o := ⟨none, .store 30 (.tmp 134) (.tmp 131), 0, "tree.go:42", #[⟨11, .data⟩, ⟨7, .data⟩, ⟨7, .chain⟩, ⟨9, .textOnly .appendInPlace⟩, ⟨0, .phase⟩, ⟨1, .phase⟩, ⟨2, .phase⟩, ⟨3, .phase⟩, ⟨4, .phase⟩, ⟨5, .phase⟩, ⟨6, .phase⟩, ⟨7, .phase⟩, ⟨8, .textOnly .appendInPlace⟩, ⟨9, .textOnly .appendInPlace⟩], none⟩) rfl (fun K hK => ?_) ReadyP.nil
           refine step_store rfl rfl 30 (.tmp 134) (.tmp 131) rfl _ [.slice (some ⟨g1, 0, none⟩) (q2 + 1) c1] rfl rfl rfl infoNdS (fun u hu => by rw [List.mem_singleton.1 hu]; rfl) HH2.out HF2.out ?_
           refine hK.out _ _ (fun h => absurd h (by decide)) ?_
           clear hK K
           refine anyP_done (by kernel_rfl) ?_ _
           clear HH1 HH2 HH3 HH4 HF1 HF2 HF3 HF4
           have HZ := HAH
           clear HAH HCH
           generalize w2x.setCells g (p * 8 + 7) [.slice (some ⟨g1, 0, none⟩) (q2 + 1) c1] = wf at HZ ⊢
           have HN : Hid (BInv w wf l (i + 1) (.slice (some ⟨g, 0, none⟩) (p + 1) cv) (addKid u2 t :: S2)) := Lib.hid (by
            refine ⟨?_, (H.out.small.pop).add, (fun h => by cases h), ?_, HZ.out.2 _ _ (Nat.le_refl _) HBI4.out⟩
            ·rw [← HDR.out]; simp [runB, HKD.out]
            ·have hz := HZ.out.1; rw [List.reverse_cons]; exact hz)
           clear HZ
           go_wp2
           go_roundw
           case rel => exact ⟨i + 1, _, by omega, by go_num, HN⟩
           case measure => simp [intOf]; omega
          ·refine step_store rfl rfl 30 (.tmp 134) (.tmp 131) rfl _ [.slice (some ⟨g1, 0, none⟩) (q2 + 1) c1] rfl rfl rfl infoNdS (fun u hu => by rw [List.mem_singleton.1 hu]; rfl) HH3.out HF3.out ?_
           refine hK.out _ _ (fun h => absurd h (by decide)) ?_
           clear hK K
           generalize w1.setCells g (p * 8 + 7) [.slice (some ⟨g1, 0, none⟩) (q2 + 1) c1] = w2x at HH4 HCH ⊢
           refine anyP_ready (rs := [9]) (by kernel_rfl) (by simp) ?_
           refine ReadyP.cons (o := ⟨none, .store 32 (.tmp 132) (.tmp 128), 0, "tree.go:42", #[⟨8, .data⟩, ⟨4, .data⟩, ⟨7, .chain⟩, ⟨0, .phase⟩, ⟨1, .phase⟩, ⟨2, .phase⟩, ⟨3, .phase⟩, ⟨4, .phase⟩, ⟨5, .phase⟩, ⟨6, .phase⟩, ⟨7, .phase⟩, ⟨12, .gcOnly .appendInPlace⟩], none⟩) rfl (fun K hK => ?_) ReadyP.nil
           refine step_store rfl rfl 32 (.tmp 132) (.tmp 128) rfl _ (ndCells t.f0 t.f1 (.slice Au t.f2.length cu)) rfl rfl rfl infoNd8 (ndCells_one _ _ rfl) HH4.out HF4.out ?_
           refine hK.out _ _ (fun h => absurd h (by decide)) ?_
           clear hK K
           refine anyP_done (by kernel_rfl) ?_ _
           clear HH1 HH2 HH3 HH4 HF1 HF2 HF3 HF4
           have HZ := HCH
           clear HAH HCH
           generalize w2x.setCells g1 (q2 * 8) (ndCells t.f0 t.f1 (.slice Au t.f2.length cu)) = wf at HZ ⊢
           have HN : Hid (BInv w wf l (i + 1) (.slice (some ⟨g, 0, none⟩) (p + 1) cv) (addKid u2 t :: S2)) := Lib.hid (by
            refine ⟨?_, (H.out.small.pop).add, (fun h => by cases h), ?_, HZ.out.2 _ _ (Nat.le_refl _) HBI4.out⟩
            ·rw [← HDR.out]; simp [runB, HKD.out]
            ·have hz := HZ.out.1; rw [List.reverse_cons]; exact hz)
           clear HZ
           go_wp2
           go_roundw
           case rel => exact ⟨i + 1, _, by omega, by go_num, HN⟩
           case measure => simp [intOf]; omega
        ·have dne : (t.f0 != nd) = true := bne_iff_ne.2 hkd
         clear hS
         have hown := H.out.own
         rw [List.reverse_cons] at hown
         obtain ⟨g, cap, u, hgu, htx⟩ := tops_of hown
         rw [List.length_reverse] at hgu
         have hsS : S'.length + 1 = sl := HSL.out
         rw [hsS] at hgu
         injection hgu with hg1 _ hg3
         subst hg1; subst hg3
         obtain ⟨m, rfl⟩ : ∃ m, sl = m + 1 := ⟨S'.length, hsS.symm⟩
         obtain ⟨Au, cu, hu⟩ := top_slice htx
         subst hu
         obtain ⟨cells, G1, G2, kc, Gk, hX⟩ := htx.top
         have hcap := topsX_cap hX
         rw [List.length_reverse] at hcap
         have HX0 := Lib.hid hX
         have HM0 : Hid (S'.reverse.length = m) := Lib.hid (by rw [List.length_reverse]; omega)
         have hcap1 : m + 1 ≤ cv := by omega
         have hcap2 : (m : Int) ≤ (cv : Int) := by omega
         have dm : ((m : Int) + 1 == 0) = false := beq_eq_false_iff_ne.2 (by omega)
         have bm1 : (0 : Int) ≤ (m : Int) := by omega
         have bm2 : (m : Int) < (m : Int) + 1 := by omega
         have hq : t.f2.length ≤ i := H.out.small.2 t List.mem_cons_self
         have HQI := Lib.hid hq
         clear hown htx hX hsS hcap hq
         have hbx : ∀ w1, Below (wr.heap.size + 1) (wr.alloc (.cells #[.int .u8 3, .int .u8 nd, .int .u8 k0, .string tx, .int .i64 p0, .int .i64 p1, .int .i64 p2, .int .i64 fd] 48)) w1 → _ := fun w1 h => box8 h
         have hbo := H.out.out
         have hbi := H.out.below
         obtain ⟨W1, hW1⟩ : ∃ W1, wr.alloc (.cells #[.int .u8 3, .int .u8 nd, .int .u8 k0, .string tx, .int .i64 p0, .int .i64 p1, .int .i64 p2, .int .i64 fd] 48) = W1 := ⟨_, rfl⟩
         have hs1 : W1.heap.size = wr.heap.size + 1 := by rw [← hW1, World.size_alloc]
         have hb1 : Below wr.heap.size wr W1 := by rw [← hW1]; exact (Below.refl wr.heap.size wr).alloc (Nat.le_refl _) _
         rw [hW1] at hbx
         have HS1 := Lib.hid hs1
         have HBY := Lib.hid hbx
         have HW1 := Lib.hid hW1
         have HB1 := Lib.hid hb1
         have HBI := Lib.hid hbi
         have hbox := Lib.hid (box_later HBX.out hb1)
         have hout := Lib.hid (hbo.trans (hb1.mono hbo.size))
         have HSZ : Hid (w.heap.size + 1 ≤ wr.heap.size) := Lib.hid (by have h := hbi.size; simp only [World.size_alloc] at h; exact h)
         clear hs1 hbx hW1 hb1 hbo hbi
         go_upto_region 7 with (fail)
         rw [HW1.out]
         obtain ⟨y0, y1, y2, y3, y4, y5, y6, y7⟩ := HBY.out W1 (Below.refl _ _)
         have HXW : Hid (TopsX W1 (w.heap.size + 1) g cv S'.reverse t (.slice Au t.f2.length cu) (fun _ => True) cells G1 G2 kc Gk) := Lib.hid (topsX_later HX0.out HB1.out)
         have z0 : W1.cell? ⟨g, m * 8, none⟩ = some (.int .u8 t.f0) := by have h := (topsX_at HXW.out 0 _ rfl).1; rw [HM0.out] at h; exact h
         have z1 : W1.cell? ⟨g, m * 8 + 1, none⟩ = some (.int .u8 t.f1.f0) := by have h := (topsX_at HXW.out 1 _ rfl).1; rw [HM0.out] at h; exact h
         have z2 : W1.cell? ⟨g, m * 8 + 2, none⟩ = some (.string t.f1.f1) := by have h := (topsX_at HXW.out 2 _ rfl).1; rw [HM0.out] at h; exact h
         have z3 : W1.cell? ⟨g, m * 8 + 3, none⟩ = some (.int .i64 t.f1.f2.f0) := by have h := (topsX_at HXW.out 3 _ rfl).1; rw [HM0.out] at h; exact h
         have z4 : W1.cell? ⟨g, m * 8 + 4, none⟩ = some (.int .i64 t.f1.f2.f1) := by have h := (topsX_at HXW.out 4 _ rfl).1; rw [HM0.out] at h; exact h
         have z5 : W1.cell? ⟨g, m * 8 + 5, none⟩ = some (.int .i64 t.f1.f2.f2) := by have h := (topsX_at HXW.out 5 _ rfl).1; rw [HM0.out] at h; exact h
         have z6 : W1.cell? ⟨g, m * 8 + 6, none⟩ = some (.int .i64 t.f1.f3) := by have h := (topsX_at HXW.out 6 _ rfl).1; rw [HM0.out] at h; exact h
         have z7 : W1.cell? ⟨g, m * 8 + 7, none⟩ = some (.slice Au t.f2.length cu) := by have h := (topsX_at HXW.out 7 _ rfl).1; rw [HM0.out] at h; exact h
         clear z1 z2 z3 z4 z5 z6 z7
         go_wp2
         go_quiet (fail)
         rename_i nq
         obtain ⟨W2, hW2⟩ : ∃ W2, W1.drewN nq = W2 := ⟨_, rfl⟩
         have hb2 : Below W1.heap.size W1 W2 := by rw [← hW2]; exact pw_below_drewN (Below.refl _ _) nq
         have HB2 := Lib.hid hb2
         have hs2 : W2.heap.size = W1.heap.size := by rw [← hW2]; rfl
         have HS2 := Lib.hid hs2
         rw [hW2]
         have hbox2 := Lib.hid ((hb2.block _ (blk_lt hbox.out)).trans hbox.out)
         have hout2 := Lib.hid (hout.out.trans (hb2.mono hout.out.size))
         clear hb2 hs2 hW2
         have HRN : Hid (runB l [] = none) := Lib.hid (by rw [← HDR.out]; simp [runB, hkd])
         go_wp2_with ((with_reducible refine gate_ (.store 32 (.tmp 2) (.tmp 97)) rfl ?_); refine wl_box rfl rfl _ _ _ rfl (.agg zNd.toArray) zNd rfl rfl rfl infoNd8 zNd_one hbox2.out rfl ?_; intro w5 h5 hu; have H5 := Lib.hid (hu.below hout2.out (Nat.le_refl _)); clear hu; obtain ⟨c0, c1, c2, c3, c4, c5, c6, c7⟩ := cells8 h5; clear h5)
         refine bodyPost_ret (v := .tuple #[.agg zNd.toArray, .int .i64 130]) ?_ rfl (BuildPost.err HRN.out H5.out)
         rw [results_cell_tmp rfl]
         go_simp
         try rfl
      ·have dk3 : (k == 3) = false := beq_eq_false_iff_ne.2 hk3
       have hbx : ∀ w1, Below (wr.heap.size + 1) (wr.alloc (.cells #[.int .u8 k, .int .u8 nd, .int .u8 k0, .string tx, .int .i64 p0, .int .i64 p1, .int .i64 p2, .int .i64 fd] 48)) w1 → _ := fun w1 h => box8 h
       have hbo := H.out.out
       have hbi := H.out.below
       obtain ⟨W1, hW1⟩ : ∃ W1, wr.alloc (.cells #[.int .u8 k, .int .u8 nd, .int .u8 k0, .string tx, .int .i64 p0, .int .i64 p1, .int .i64 p2, .int .i64 fd] 48) = W1 := ⟨_, rfl⟩
       have hs1 : W1.heap.size = wr.heap.size + 1 := by rw [← hW1, World.size_alloc]
       have hb1 : Below wr.heap.size wr W1 := by rw [← hW1]; exact (Below.refl wr.heap.size wr).alloc (Nat.le_refl _) _
       rw [hW1] at hbx
       have HS1 := Lib.hid hs1
       have HBY := Lib.hid hbx
       have HW1 := Lib.hid hW1
       have HB1 := Lib.hid hb1
       have HBI := Lib.hid hbi
       have hbox := Lib.hid (box_later HBX.out hb1)
       have hout := Lib.hid (hbo.trans (hb1.mono hbo.size))
       have HSZ : Hid (w.heap.size + 1 ≤ wr.heap.size) := Lib.hid (by have h := hbi.size; simp only [World.size_alloc] at h; exact h)
       clear hs1 hbx hW1 hb1 hbo hbi
       go_upto_region 7 with (fail)
       rw [HW1.out]
       obtain ⟨y0, y1, y2, y3, y4, y5, y6, y7⟩ := HBY.out W1 (Below.refl _ _)
       have HRN : Hid (runB l [] = none) := Lib.hid (by rw [← HDR.out]; simp [runB, hk1, hk2, hk4, hk3])
       go_wp2_with ((with_reducible refine gate_ (.store 32 (.tmp 2) (.tmp 19)) rfl ?_); refine wl_box rfl rfl _ _ _ rfl (.agg zNd.toArray) zNd rfl rfl rfl infoNd8 zNd_one hbox.out rfl ?_; intro w5 h5 hu; have H5 := Lib.hid (hu.below hout.out (Nat.le_refl _)); clear hu; obtain ⟨c0, c1, c2, c3, c4, c5, c6, c7⟩ := cells8 h5; clear h5)
       refine bodyPost_ret (v := .tuple #[.agg zNd.toArray, .int .i64 130]) ?_ rfl (BuildPost.err HRN.out H5.out)
       rw [results_cell_tmp rfl]
       go_simp
       try rfl
  ·obtain rfl : n = i := by omega
   have dl : decide ((n : Int) < (n : Int)) = false := decide_eq_false (by omega)
   have hout := Lib.hid H.out.out
   have HRN : Hid (runB l [] = none) := Lib.hid (by rw [← H.out.run, List.drop_of_length_le (by have := HL.out; omega)]; rfl)
   go_wp2_with ((with_reducible refine gate_ (.store 32 (.tmp 2) (.tmp 136)) rfl ?_); refine wl_box rfl rfl _ _ _ rfl (.agg zNd.toArray) zNd rfl rfl rfl infoNd8 zNd_one HBX.out rfl ?_; intro w5 h5 hu; have H5 := Lib.hid (hu.below hout.out (Nat.le_refl _)); clear hu; obtain ⟨c0, c1, c2, c3, c4, c5, c6, c7⟩ := cells8 h5; clear h5)
   refine bodyPost_ret (v := .tuple #[.agg zNd.toArray, .int .i64 130]) ?_ rfl (BuildPost.err HRN.out H5.out)
   rw [results_cell_tmp rfl]
   go_simp
   try rfl
end Go.Proofs.YtmjbpgnjgblnmaaGreat.Tr
namespace Go.Proofs.YtmjbpgnjgblnmaaGreat
open Go.RowKit Go.Proofs.YtmjbpgnjgblnmaaGreatW.PrintWords Go.Proofs.YtmjbpgnjgblnmaaGreatW.PrintLast Go.Proofs.YtmjbpgnjgblnmaaGreatW.PrintMore
theorem wp_opaque {P : Program} {c : Code} {Q : Exit → Act → World → Prop} {a : Act} {w : World} (h : ∀ Q' : Exit → Act → World → Prop, (∀ e a w, Q e a w → Q' e a w) → c.wp P Q' a w) : c.wp P Q a w := h Q (fun _ _ _ h => h)
theorem wp_opaque2 {P : Program} {c : Code} {Q : Exit → Act → World → Prop} {a : Act} {w : World} (hp : ∀ x (a : Act) d v w, Q (.panic x) (a.put d v) w → Q (.panic x) a w) (h : ∀ Q' : Exit → Act → World → Prop, (∀ e a w, Q e a w → Q' e a w) → (∀ x (a : Act) d v w, Q' (.panic x) (a.put d v) w → Q' (.panic x) a w) → c.wp P Q' a w) : c.wp P Q a w := h Q (fun _ _ _ h => h) hp
theorem wp_tmps {P : Program} {c : Code} {Q : Exit → Act → World → Prop} {t t' : Array Value} {d : List Deferred} {w : World} (h : t = t') (hw : c.wp P Q { tmps := t', defers := d } w) : c.wp P Q { tmps := t, defers := d } w := h ▸ hw
theorem under_any : Tryz.prog.underlying 20 = some (.interface (Tryz.prog.methodsAt 20)) := by kernel_rfl
theorem neq_nn (w : World) : (binOp .neq 20 .nilIface .nilIface).run Tryz.prog w = .ok (.bool false) w := run_neq_nil_nil w _ under_any
theorem neq_hn (u : TypeId) (x : Value) (w : World) : (binOp .neq 20 (.iface u x) .nilIface).run Tryz.prog w = .ok (.bool true) w := run_neq_held_nil w _ u x under_any
set_option maxRecDepth 100000 in
set_option maxHeartbeats 400000 in
theorem catch_idle (g0 g1 g2 : Nat) (w : World) :
  CallsD Tryz.prog 17 #[.pointer (some ⟨g0, 0, none⟩), .pointer (some ⟨g1, 0, none⟩), .pointer (some ⟨g2, 0, none⟩)] .returning w fun e u' w' => e = .returned (.tuple #[]) ∧ u' = .returning ∧ w' = w := by
 refine callsD_of_wpS Tryz.func17 rfl fun c₀ cs hu => ?_
 apply wpS_seq
 apply wpS_region
 simp [wpOpsS, go_sem, recoverD, hu, Tryz.ntmps17, Exit.thenS]
 refine wpS_of_wp (wp_opaque fun Q' hQ' => ?_)
 have hneq := neq_nn w
 refine wp_tmps (t' := #[.pointer (some ⟨g0, 0, none⟩), .pointer (some ⟨g1, 0, none⟩), .pointer (some ⟨g2, 0, none⟩), .nilIface, undef, undef, .nilIface, undef, undef, undef, undef, undef, undef, undef, undef, undef, undef, undef, undef, undef, undef, undef]) (by kernel_rfl) ?_
 go_wp2
 cases c₀
 simp_all [bodyPostS, results, Tryz.results17]
theorem any_store {ops : Array Oper} {md : Region.Mode} {Q : Exit → Act → World → Prop} {S : World → Prop} {early : Nat → Bool} {fuel : Nat} {listed : Array Bool} {a : Act} {W : World} {o : Oper} (i : Nat) (hr : Region.ready md ops listed = [i]) (hi : ops[i]? = some o) (hgd : o.guard = none) (hd : o.dst = none) (t : TypeId) (p x : Operand) (ho : o.op = .store t p x) {g off : Nat} {e : TypeId} {cur : Array Value} (u : Value) (seg : List Value) (haddr : a.eval p = .pointer (some ⟨g, off, none⟩)) (hx : a.eval x = u) (hu : u.cells.toList = seg)
  (ht : (Tryz.prog.info? t).map (·.size) = some seg.length) (h1 : ∀ v ∈ seg, v.oneCell' = true) (hh : W.heap[g]? = some (.cells cur e (0, 0))) (hfit : off + seg.length ≤ cur.size) (hS : S (W.setCells g off seg))
  (h : AnyP Tryz.prog md ops Q S early fuel (listed.setIfInBounds i true) a (W.setCells g off seg)) : AnyP Tryz.prog md ops Q S early (fuel + 1) listed a W :=
 anyP_ready hr (by simp) (ReadyP.cons hi (fun K hK => step_store hgd hd t p x ho u seg haddr hx hu ht h1 hh hfit (hK.out _ _ (fun _ => hS) h)) ReadyP.nil)
theorem cell_same {w w2 : World} {g i : Nat} (h : w2.heap[g]? = w.heap[g]?) : w2.cell? ⟨g, i, none⟩ = w.cell? ⟨g, i, none⟩ := by
 unfold World.cell?
 rw [h]
theorem wrong_rows {g0 g1 g2 : Nat} {w : World} {z0 : Array Value} {z1 z2 : Value} (h0 : w.heap[g0]? = some (.cells z0 32 (0, 0))) (hz : z0.size = 8) (h1 : w.heap[g1]? = some (.cells #[z1] 33 (0, 0))) (h2 : w.heap[g2]? = some (.cells #[z2] 3 (0, 0))) (hne : g0 ≠ g1 ∧ g0 ≠ g2 ∧ g1 ≠ g2) (er : Int) (j : Nat) :
  (w.alloc (.cells #[.int .i64 er, .int .i64 j] 52)).drew.heap[g0]? = some (.cells z0 32 (0, 0)) ∧ ((w.alloc (.cells #[.int .i64 er, .int .i64 j] 52)).drew.setCells g0 0 Tr.zNd).heap[g1]? = some (.cells #[z1] 33 (0, 0)) ∧ (((w.alloc (.cells #[.int .i64 er, .int .i64 j] 52)).drew.setCells g0 0 Tr.zNd).setCells g1 0 [.int .i64 er]).heap[g2]? = some (.cells #[z2] 3 (0, 0)) := by
 have hb := (Below.refl w.heap.size w).alloc (Nat.le_refl _) (.cells #[.int .i64 er, .int .i64 j] 52) |>.drew
 refine ⟨(hb.block _ (blk_lt h0)).trans h0, (setCells_far _ _ _ (Ne.symm hne.1)).trans ((hb.block _ (blk_lt h1)).trans h1), (setCells_far _ _ _ (Ne.symm hne.2.2)).trans ((setCells_far _ _ _ (Ne.symm hne.2.1)).trans ((hb.block _ (blk_lt h2)).trans h2))⟩
set_option maxRecDepth 100000 in
set_option maxHeartbeats 400000 in
theorem catch_wrong (g0 g1 g2 : Nat) (w : World) (er : Int) (j : Nat) (z0 : Array Value) (z1 z2 : Value) (h0 : w.heap[g0]? = some (.cells z0 32 (0, 0))) (hz : z0.size = 8) (h1 : w.heap[g1]? = some (.cells #[z1] 33 (0, 0))) (h2 : w.heap[g2]? = some (.cells #[z2] 3 (0, 0))) (hne : g0 ≠ g1 ∧ g0 ≠ g2 ∧ g1 ≠ g2) :
  CallsD Tryz.prog 17 #[.pointer (some ⟨g0, 0, none⟩), .pointer (some ⟨g1, 0, none⟩), .pointer (some ⟨g2, 0, none⟩)] (.panicking [{ v := .iface 52 (.agg #[.int .i64 er, .int .i64 j]), recovered := false }]) w fun e u' w' => e = .returned (.tuple #[]) ∧ u' = .panicking [{ v := .iface 52 (.agg #[.int .i64 er, .int .i64 j]), recovered := true }] ∧ w' = (((w.alloc (.cells #[.int .i64 er, .int .i64 j] 52)).drew.setCells g0 0 Tr.zNd).setCells g1 0 [.int .i64 er]).setCells g2 0 [.int .i64 j] := by
 have HZ := Lib.hid hz
 refine callsD_of_wpS Tryz.func17 rfl fun c₀ cs hu => ?_
 apply wpS_seq
 apply wpS_region
 simp [wpOpsS, go_sem, recoverD, hu, Tryz.ntmps17, Exit.thenS]
 refine wpS_of_wp (wp_opaque2 (fun x a d v w h => by simp [bodyPostS] at h) fun Q' hQ' hP' => ?_)
 have hta : ∀ w1, (Instr.typeAssert (.iface 52 (.agg #[.int .i64 er, .int .i64 j])) 20 52 true).run Tryz.prog w1 = .ok (.tuple #[.agg #[.int .i64 er, .int .i64 j], .bool true]) w1 := fun w1 => by kernel_rfl
 have hneq := neq_hn 52 (.agg #[.int .i64 er, .int .i64 j]) w
 refine wp_tmps (t' := #[.pointer (some ⟨g0, 0, none⟩), .pointer (some ⟨g1, 0, none⟩), .pointer (some ⟨g2, 0, none⟩), .iface 52 (.agg #[.int .i64 er, .int .i64 j]), undef, undef, .iface 52 (.agg #[.int .i64 er, .int .i64 j]), undef, undef, undef, undef, undef, undef, undef, undef, undef, undef, undef, undef, undef, undef, undef]) (by kernel_rfl) ?_
 go_wp2
 refine wp_region_P (fun w' => w'.cell? ⟨w.heap.size, 0, none⟩ = some (.int .i64 er) ∧ w'.cell? ⟨w.heap.size, 1, none⟩ = some (.int .i64 j)) (fun _ => true) (by kernel_rfl) ?_
 have HS : Hid ((w.alloc (.cells #[.int .i64 er, .int .i64 j] 52)).drew.cell? ⟨w.heap.size, 0, none⟩ = some (.int .i64 er) ∧ (w.alloc (.cells #[.int .i64 er, .int .i64 j] 52)).drew.cell? ⟨w.heap.size, 1, none⟩ = some (.int .i64 j)) := Lib.hid ⟨by simp [go_sem], by simp [go_sem]⟩
 have HF : Hid (∀ w2 : World, w2.heap[w.heap.size]? = (w.alloc (.cells #[.int .i64 er, .int .i64 j] 52)).drew.heap[w.heap.size]? → w2.cell? ⟨w.heap.size, 0, none⟩ = some (.int .i64 er) ∧ w2.cell? ⟨w.heap.size, 1, none⟩ = some (.int .i64 j)) := Lib.hid fun w2 h => ⟨(cell_same h).trans HS.out.1, (cell_same h).trans HS.out.2⟩
 have hl0 := blk_lt h0
 have hl1 := blk_lt h1
 have hl2 := blk_lt h2
 have HA := Lib.hid (wrong_rows h0 hz h1 h2 hne er j)
 generalize (w.alloc (.cells #[.int .i64 er, .int .i64 j] 52)).drew = w1 at HS HA HF hQ' ⊢
 refine anyP_take (i := 0) (oi := ⟨some 17, .build 32 #[], 32, "syntax.go:31", #[], none⟩) (v := ?_) rfl (by kernel_rfl) (fun _ _ _ h => hP' _ _ _ _ _ h) (Or.inl ⟨by rfl, ?_⟩) HS.out ?_
 rotate_left
 ·intro x h; (try dsimp only at h); go_simp; try (with_reducible rfl)
 try simp only [Act.put, List.setIfInBounds_toArray, List.set]
 refine anyP_take (i := 1) (oi := ⟨some 18, .fieldAddr 52 (.tmp 4) 0, 0, "syntax.go:31", #[⟨5, .gcOnly .lateStores⟩], none⟩) (v := ?_) rfl (by kernel_rfl) (fun _ _ _ h => hP' _ _ _ _ _ h) (Or.inl ⟨by rfl, ?_⟩) HS.out ?_
 rotate_left
 ·intro x h; (try dsimp only at h); go_simp; try (with_reducible rfl)
 try simp only [Act.put, List.setIfInBounds_toArray, List.set]
 refine anyP_take (i := 2) (oi := ⟨some 19, .load 33 (.tmp 18), 33, "syntax.go:31", #[⟨1, .data⟩, ⟨5, .gcOnly .lateStores⟩], none⟩) (v := ?_) rfl (by kernel_rfl) (fun _ _ _ h => hP' _ _ _ _ _ h) (Or.inl ⟨by rfl, ?_⟩) HS.out ?_
 rotate_left
 ·intro x h; (try dsimp only at h); go_simp; try (with_reducible rfl)
 try simp only [Act.put, List.setIfInBounds_toArray, List.set]
 refine anyP_take (i := 3) (oi := ⟨some 20, .fieldAddr 52 (.tmp 4) 1, 0, "syntax.go:31", #[⟨6, .gcOnly .lateStores⟩], none⟩) (v := ?_) rfl (by kernel_rfl) (fun _ _ _ h => hP' _ _ _ _ _ h) (Or.inl ⟨by rfl, ?_⟩) HS.out ?_
 rotate_left
 ·intro x h; (try dsimp only at h); go_simp; try (with_reducible rfl)
 try simp only [Act.put, List.setIfInBounds_toArray, List.set]
 refine anyP_take (i := 4) (oi := ⟨some 21, .load 3 (.tmp 20), 3, "syntax.go:31", #[⟨3, .data⟩, ⟨6, .gcOnly .lateStores⟩], none⟩) (v := ?_) rfl (by kernel_rfl) (fun _ _ _ h => hP' _ _ _ _ _ h) (Or.inl ⟨by rfl, ?_⟩) HS.out ?_
 rotate_left
 ·intro x h; (try dsimp only at h); go_simp; try (with_reducible rfl)
 try simp only [Act.put, List.setIfInBounds_toArray, List.set]
 refine any_store 5 (o := ⟨none, .store 32 (.tmp 0) (.tmp 17), 0, "syntax.go:31", #[⟨0, .data⟩, ⟨0, .phase⟩, ⟨1, .textOnly .lateStores⟩, ⟨2, .textOnly .lateStores⟩, ⟨3, .textOnly .lateStores⟩, ⟨4, .textOnly .lateStores⟩], none⟩) (by kernel_rfl) (by kernel_rfl) rfl rfl 32 (.tmp 0) (.tmp 17) rfl (g := g0) (off := 0) (.agg Tr.zNd.toArray) Tr.zNd rfl rfl rfl Tr.infoNd8 Tr.zNd_one HA.out.1 (by rw [HZ.out]; exact Nat.le_refl _) (HF.out _ (setCells_far _ _ _ (by omega))) ?_
 refine any_store 6 (o := ⟨none, .store 33 (.tmp 1) (.tmp 19), 0, "syntax.go:31", #[⟨2, .data⟩, ⟨5, .chain⟩, ⟨0, .phase⟩, ⟨1, .phase⟩, ⟨2, .phase⟩, ⟨3, .textOnly .lateStores⟩, ⟨4, .textOnly .lateStores⟩, ⟨5, .phase⟩], none⟩) (by kernel_rfl) (by kernel_rfl) rfl rfl 33 (.tmp 1) (.tmp 19) rfl (g := g1) (off := 0) (.int .i64 er) [.int .i64 er] rfl rfl rfl (by kernel_rfl) (fun v hv => by rw [List.mem_singleton.1 hv]; rfl) HA.out.2.1 (Nat.le_refl _) (HF.out _ ((setCells_far _ _ _ (by omega)).trans (setCells_far _ _ _ (by omega)))) ?_
 refine any_store 7 (o := ⟨none, .store 3 (.tmp 2) (.tmp 21), 0, "syntax.go:31", #[⟨4, .data⟩, ⟨6, .chain⟩, ⟨0, .phase⟩, ⟨1, .phase⟩, ⟨2, .phase⟩, ⟨3, .phase⟩, ⟨4, .phase⟩, ⟨5, .phase⟩, ⟨6, .phase⟩], none⟩) (by kernel_rfl) (by kernel_rfl) rfl rfl 3 (.tmp 2) (.tmp 21) rfl (g := g2) (off := 0) (.int .i64 j) [.int .i64 j] rfl rfl rfl (by kernel_rfl) (fun v hv => by rw [List.mem_singleton.1 hv]; rfl) HA.out.2.2 (Nat.le_refl _) (HF.out _ ((setCells_far _ _ _ (by omega)).trans ((setCells_far _ _ _ (by omega)).trans (setCells_far _ _ _ (by omega))))) ?_
 refine anyP_done (by kernel_rfl) ?_ _
 refine hQ' _ _ _ ?_
 clear hP' hQ' HS HA HF hta hneq
 cases c₀
 simp_all [bodyPostS, results, Tryz.results17]
end Go.Proofs.YtmjbpgnjgblnmaaGreat
