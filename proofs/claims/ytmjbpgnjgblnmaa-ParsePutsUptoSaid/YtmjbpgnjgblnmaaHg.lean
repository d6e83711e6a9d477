/- ParsePuts: whatever the two rows of tokens (of bulk at most the row's bound) and the turn, the law returns true; nothing that was there changes. -/
import Derived.Test.YtmjbpgnjgblnmaaHf
import Derived.Deep.Slices
import Derived.ChangeArms
import Derived.OpenShut
import Derived.Test.YtmjbpgnjgblnmaaRows
import Derived.WalkKit
import Derived.ProofKit
import Derived.JoinedCond
import Derived.ChangeOld
import Derived.Below
set_option linter.unusedVariables false
set_option linter.unusedSimpArgs false
namespace Go.Proofs.Ytmjbpgnjgblnmaa
open Go.RowKit Go.Proofs.YtmjbpgnjgblnmaaW.PrintWords Go.Proofs.YtmjbpgnjgblnmaaW.PrintLast Go.Proofs.YtmjbpgnjgblnmaaW.PrintMore
set_option maxRecDepth 100000 in
set_option maxHeartbeats 8000000 in
theorem puts_big (A B : Option Addr) (n m c d : Nat) (turn : Int) (w : World) (h : 3000 < n + m) (hn : n ≤ 4611686018427387903) (hm : m ≤ 4611686018427387903) : Calls Try.prog 3 #[.slice A n c, .slice B m d, .int .i64 turn] w fun e w' => e = .returned (.bool true) ∧ Below w.heap.size w w' := by
 have HAW := Lib.hid (awake_any w)
 obtain ⟨s, hs⟩ : ∃ s, n + m = s := ⟨_, rfl⟩
 have g1 : wrap64 ((n : Int) + (m : Int)) = s := by unfold wrap64; omega
 have g2 : IntKind.i64.wrap ((n : Int) + (m : Int)) = s := by rw [IntKind.wrap_i64]; omega
 have g3 : (3000 : Int) < (s : Int) := by omega
 clear h hs hn hm
 go_enter Try.func3, Try.ntmps3
 go_wp2_with (go_at_call 8; (with_reducible refine Calls.mono HAW.out ?_); rintro e w1 ⟨rfl, hb1⟩; have HB1 := Lib.hid hb1; clear hb1)
 go_ret
 exact ⟨rfl, HB1.out⟩
set_option maxRecDepth 100000 in
set_option maxHeartbeats 8000000 in
theorem puts_any (A B : Option Addr) (c d : Nat) (l m : List Tk) (turn : Int) (w : World) (hA : Kd.C kTk w A l.length l) (hB : Kd.C kTk w B m.length m) (hl : l.length + m.length ≤ 3000) : Calls Try.prog 3 #[.slice A l.length c, .slice B m.length d, .int .i64 turn] w fun e w' => e = .returned (.bool true) ∧ Below w.heap.size w w' := by
 have HAW := Lib.hid (awake_any w)
 have HA := Lib.hid hA
 have HBB := Lib.hid hB
 have HL := Lib.hid hl
 obtain ⟨s, hs⟩ : ∃ s, l.length + m.length = s := ⟨_, rfl⟩
 have g1 : wrap64 ((l.length : Int) + (m.length : Int)) = s := by unfold wrap64; omega
 have g2 : IntKind.i64.wrap ((l.length : Int) + (m.length : Int)) = s := by rw [IntKind.wrap_i64]; omega
 have g3 : ¬ (3000 : Int) < (s : Int) := by omega
 clear hs hA hB hl
 go_enter Try.func3, Try.ntmps3
 go_wp2_with (first
  | (go_at_call 8; (with_reducible refine Calls.mono HAW.out ?_); rintro e w1 ⟨rfl, hb1⟩; have HB1 := Lib.hid hb1; clear hb1)
  | (go_at_call 9; (with_reducible refine Calls.mono (New_any w1) ?_); rintro e w2 ⟨vt1, rfl, hP, hb⟩; have HP1 := Lib.hid hP.at_; have HP0 := HP1; have HB2 := Lib.hid (HB1.out.trans (hb.mono HB1.out.size)); have HQ1 := Lib.hid (blk_lt hP.at_.box); clear hP hb)
  | (go_at_call 10; (with_reducible refine Calls.mono (rnew_any w2) ?_); rintro e w3 ⟨rfl, hQ, hb⟩; replace HP1 := Lib.hid (HP1.out.below hb); have HQA := Lib.hid hQ; have HB3 := Lib.hid (HB2.out.trans (hb.mono HB2.out.size)); have HL3 := Lib.hid (And.intro (blk_lt hQ.box) hb.size); clear hQ hb)
  | ((with_reducible refine gate_ (.store 29 (.tmp 8) (.tmp 32)) rfl ?_); refine wl_cells rfl rfl _ _ _ rfl (g := w3.heap.size) (off := 0) (.agg #[.pointer (some ⟨w1.heap.size, 0, none⟩), .pointer (some ⟨w2.heap.size, 0, none⟩)]) [.pointer (some ⟨w1.heap.size, 0, none⟩), .pointer (some ⟨w2.heap.size, 0, none⟩)] rfl rfl rfl (by kernel_rfl) (fun v hv => by simp only [List.mem_cons, List.not_mem_nil, or_false] at hv; rcases hv with rfl | rfl <;> rfl) (box_new (Below.refl _ w3) 29 [.pointer none, .pointer none] [.pointer (some ⟨w1.heap.size, 0, none⟩), .pointer (some ⟨w2.heap.size, 0, none⟩)] rfl).1.choose_spec.1 (box_new (Below.refl _ w3) 29 [.pointer none, .pointer none] [.pointer (some ⟨w1.heap.size, 0, none⟩), .pointer (some ⟨w2.heap.size, 0, none⟩)] rfl).1.choose_spec.2 ?_; intro w4 hV; obtain ⟨hb, hx⟩ := (box_new (Below.refl _ w3) 29 [.pointer none, .pointer none] [.pointer (some ⟨w1.heap.size, 0, none⟩), .pointer (some ⟨w2.heap.size, 0, none⟩)] rfl).2 w4 hV; replace HP1 := Lib.hid (HP1.out.below hb); replace HQA := Lib.hid (HQA.out.below hb); have HXA := Lib.hid hx; have HB4 := Lib.hid (HB3.out.trans (hb.mono HB3.out.size)); have HL4 := Lib.hid (And.intro hb.size (blk_lt hx)); clear hb hx hV)
  | (go_at_call 9; (with_reducible refine Calls.mono (New_any w4) ?_); rintro e w5 ⟨vt2, rfl, hP, hb⟩; replace HP1 := Lib.hid (HP1.out.below hb); replace HQA := Lib.hid (HQA.out.below hb); replace HXA := Lib.hid ((hb.block _ (blk_lt HXA.out)).trans HXA.out); have HP2 := Lib.hid hP.at_; have HB5 := Lib.hid (HB4.out.trans (hb.mono HB4.out.size)); have HL5 := Lib.hid (blk_lt hP.at_.box); clear hP hb)
  | (go_at_call 10; (with_reducible refine Calls.mono (rnew_any w5) ?_); rintro e w6 ⟨rfl, hQ, hb⟩; replace HP1 := Lib.hid (HP1.out.below hb); replace HQA := Lib.hid (HQA.out.below hb); replace HXA := Lib.hid ((hb.block _ (blk_lt HXA.out)).trans HXA.out); replace HP2 := Lib.hid (HP2.out.below hb); have HQB := Lib.hid hQ; have HB6 := Lib.hid (HB5.out.trans (hb.mono HB5.out.size)); clear hQ hb)
  | ((with_reducible refine gate_ (.store 29 (.tmp 9) (.tmp 35)) rfl ?_); refine wl_cells rfl rfl _ _ _ rfl (g := w6.heap.size) (off := 0) (.agg #[.pointer (some ⟨w4.heap.size, 0, none⟩), .pointer (some ⟨w5.heap.size, 0, none⟩)]) [.pointer (some ⟨w4.heap.size, 0, none⟩), .pointer (some ⟨w5.heap.size, 0, none⟩)] rfl rfl rfl (by kernel_rfl) (fun v hv => by simp only [List.mem_cons, List.not_mem_nil, or_false] at hv; rcases hv with rfl | rfl <;> rfl) (box_new (Below.refl _ w6) 29 [.pointer none, .pointer none] [.pointer (some ⟨w4.heap.size, 0, none⟩), .pointer (some ⟨w5.heap.size, 0, none⟩)] rfl).1.choose_spec.1 (box_new (Below.refl _ w6) 29 [.pointer none, .pointer none] [.pointer (some ⟨w4.heap.size, 0, none⟩), .pointer (some ⟨w5.heap.size, 0, none⟩)] rfl).1.choose_spec.2 ?_; intro w7 hV; obtain ⟨hb, hx⟩ := (box_new (Below.refl _ w6) 29 [.pointer none, .pointer none] [.pointer (some ⟨w4.heap.size, 0, none⟩), .pointer (some ⟨w5.heap.size, 0, none⟩)] rfl).2 w7 hV; have hE : PutsE w w7 w3.heap.size w6.heap.size w1.heap.size w2.heap.size w4.heap.size w5.heap.size 0 newPar ⟨[], [], 0, false⟩ newPar ⟨[], [], 0, false⟩ := ⟨tin_new, tin_new, _, _, _, _, _, _, _, _, _, _, HP1.out.below hb, HQA.out.below hb, HP2.out.below hb, HQB.out.below hb, (hb.block _ (blk_lt HXA.out)).trans HXA.out, hx, HB6.out.trans (hb.mono HB6.out.size), ⟨HB1.out.size, HB2.out.size, HB4.out.size, HB5.out.size⟩, by have := HQ1.out; have := HL3.out; have := HL4.out; omega, by have := HL3.out; have := HL4.out; have := HL5.out; omega, fun g h1 h2 => by have := own_lt HP0.out.todo g h1; have := own_base HP2.out.todo g h2; have := HL3.out; have := HL4.out; omega, fun g h => by cases h⟩; have HE0 := Lib.hid hE; obtain ⟨x1, x2, x3, x4, -⟩ := hE.cells; clear hb hx hV hE))
 clear HP0 HP1 HQA HXA HP2 HQB HB1 HB2 HB3 HB4 HB5 HB6 HQ1 HL3 HL4 HL5
 obtain ⟨ba, hba⟩ : ∃ ba, w3.heap.size = ba := ⟨_, rfl⟩
 obtain ⟨bb, hbb⟩ : ∃ bb, w6.heap.size = bb := ⟨_, rfl⟩
 obtain ⟨p1, hp1⟩ : ∃ p1, w1.heap.size = p1 := ⟨_, rfl⟩
 obtain ⟨q1, hq1⟩ : ∃ q1, w2.heap.size = q1 := ⟨_, rfl⟩
 obtain ⟨p2, hp2⟩ : ∃ p2, w4.heap.size = p2 := ⟨_, rfl⟩
 obtain ⟨q2, hq2⟩ : ∃ q2, w5.heap.size = q2 := ⟨_, rfl⟩
 rw [hba, hbb, hp1, hq1, hp2, hq2] at HE0
 rw [hba, hbb, hp1, hq1, hp2, hq2]
 clear hba hbb hp1 hq1 hp2 hq2 x1 x2 x3 x4 g1 g2 g3
 obtain ⟨K, hK⟩ : ∃ K, max l.length m.length = K := ⟨_, rfl⟩
 have hK1 : l.length ≤ K ∧ m.length ≤ K ∧ K ≤ 3000 ∧ (K = l.length ∨ K = m.length) := by have := HL.out; omega
 clear hK
 go_loopw [10] (fun v10 wr => ∃ i : Nat, i ≤ K ∧ v10 = .int .i64 i ∧ Hid (∃ n P1 Q1 P2 Q2, n ≤ 2 * i ∧ PutsE w wr ba bb p1 q1 p2 q2 n P1 Q1 P2 Q2)) (fun v10 _ => K - (intOf v10).toNat)
 case atStart => exact ⟨0, Nat.zero_le _, rfl, Lib.hid ⟨0, _, _, _, _, Nat.le_refl _, HE0.out⟩⟩
 case round =>
  obtain ⟨i, hi, rfl, H⟩ := hrel
  obtain ⟨n, P1, Q1, P2, Q2, hn, hE⟩ := H.out
  clear HE0 H
  have HE := Lib.hid hE
  have HN : Hid (n ≤ 2 * i ∧ i ≤ 3000) := Lib.hid ⟨hn, by omega⟩
  obtain ⟨x1, x2, x3, x4, hbw⟩ := hE.cells
  have k3 : wrap64 ((i : Int) + 1) = (i : Int) + 1 := by unfold wrap64; omega
  have k4 : IntKind.i64.wrap ((i : Int) + 1) = (i : Int) + 1 := by rw [IntKind.wrap_i64]; omega
  have k5 : (0 : Int) ≤ i := by omega
  clear hE hn
  by_cases ha : i < l.length
  ·by_cases hb : i < m.length
   ·by_cases hc : (i : Int) = turn
    ·skip
     have ka : (i : Int) < (l.length : Int) := by omega
     obtain ⟨ad, hAd, hcells⟩ := tok_cells HA.out i ha
     obtain ⟨t, ht⟩ : ∃ t, PParsePuts.rd_T35 l i = t := ⟨_, rfl⟩
     rw [ht] at hcells
     subst hAd
     have HT1 := Lib.hid hcells
     obtain ⟨c0, c1, c2, c3, c4, c5⟩ := hcells wr hbw
     clear hcells ht
     have kb : (i : Int) < (m.length : Int) := by omega
     obtain ⟨ad2, hBd, hcells⟩ := tok_cells HBB.out i hb
     obtain ⟨u, hu⟩ : ∃ u, PParsePuts.rd_T35 m i = u := ⟨_, rfl⟩
     rw [hu] at hcells
     subst hBd
     have HT2 := Lib.hid hcells
     clear hcells hu
     subst hc
     go_upto_region 12 with (fail)
     obtain ⟨Wd, hWd⟩ : ∃ V, wr.drew = V := ⟨_, rfl⟩
     have hbd : Below wr.heap.size wr Wd := by rw [← hWd]; exact (Below.refl _ wr).drew
     have hS : Wd.cell? ⟨ba, 0, none⟩ = some (.pointer (some ⟨p1, 0, none⟩)) ∧ Wd.cell? ⟨ba, 1, none⟩ = some (.pointer (some ⟨q1, 0, none⟩)) ∧ Wd.cell? (ad.add (i * 6)) = some (.int .u8 t.f0) ∧ Wd.cell? ⟨(ad.add (i * 6)).block, (ad.add (i * 6)).off + 1, none⟩ = some (.string t.f1) ∧ Wd.cell? ⟨(ad.add (i * 6)).block, (ad.add (i * 6)).off + 2, none⟩ = some (.int .i64 t.f2.f0) ∧ Wd.cell? ⟨(ad.add (i * 6)).block, (ad.add (i * 6)).off + 3, none⟩ = some (.int .i64 t.f2.f1) ∧ Wd.cell? ⟨(ad.add (i * 6)).block, (ad.add (i * 6)).off + 4, none⟩ = some (.int .i64 t.f2.f2) ∧ Wd.cell? ⟨(ad.add (i * 6)).block, (ad.add (i * 6)).off + 5, none⟩ = some (.int .i64 t.f3) := ⟨pw_cell_below hbd x1, pw_cell_below hbd x2, pw_cell_below hbd c0, pw_cell_below hbd c1, pw_cell_below hbd c2, pw_cell_below hbd c3, pw_cell_below hbd c4, pw_cell_below hbd c5⟩
     have HS := Lib.hid hS
     replace HE := Lib.hid (HE.out.below hbd)
     have HWd := Lib.hid hWd
     clear hS hbd hWd
     refine wp_region_R (fun w' => w'.cell? ⟨ba, 0, none⟩ = some (.pointer (some ⟨p1, 0, none⟩)) ∧ w'.cell? ⟨ba, 1, none⟩ = some (.pointer (some ⟨q1, 0, none⟩)) ∧ w'.cell? (ad.add (i * 6)) = some (.int .u8 t.f0) ∧ w'.cell? ⟨(ad.add (i * 6)).block, (ad.add (i * 6)).off + 1, none⟩ = some (.string t.f1) ∧ w'.cell? ⟨(ad.add (i * 6)).block, (ad.add (i * 6)).off + 2, none⟩ = some (.int .i64 t.f2.f0) ∧ w'.cell? ⟨(ad.add (i * 6)).block, (ad.add (i * 6)).off + 3, none⟩ = some (.int .i64 t.f2.f1) ∧ w'.cell? ⟨(ad.add (i * 6)).block, (ad.add (i * 6)).off + 4, none⟩ = some (.int .i64 t.f2.f2) ∧ w'.cell? ⟨(ad.add (i * 6)).block, (ad.add (i * 6)).off + 5, none⟩ = some (.int .i64 t.f3)) (fun _ => true) (by kernel_rfl) ?_
     rw [HWd.out]
     refine anyR_take (i := 0) (oi := ⟨some 60, .load 29 (.tmp 8), 29, "law.go:114", #[], none⟩) (v := ?_) rfl (by kernel_rfl) (fun _ _ _ h => h) (Or.inl ⟨by rfl, ?_⟩) HS.out ?_
     rotate_left
     ·intro x h; (try dsimp only at h); go_simp; try (with_reducible rfl)
     try simp only [Act.put, List.setIfInBounds_toArray, List.set]
     refine anyR_take (i := 1) (oi := ⟨some 61, .move (.tmp 0), 22, "law.go:114", #[], none⟩) (v := ?_) rfl (by kernel_rfl) (fun _ _ _ h => h) (Or.inl ⟨by rfl, ?_⟩) HS.out ?_
     rotate_left
     ·intro x h; (try dsimp only at h); go_simp; try (with_reducible rfl)
     try simp only [Act.put, List.setIfInBounds_toArray, List.set]
     refine anyR_take (i := 2) (oi := ⟨some 62, .move (.tmp 10), 3, "law.go:114", #[], none⟩) (v := ?_) rfl (by kernel_rfl) (fun _ _ _ h => h) (Or.inl ⟨by rfl, ?_⟩) HS.out ?_
     rotate_left
     ·intro x h; (try dsimp only at h); go_simp; try (with_reducible rfl)
     try simp only [Act.put, List.setIfInBounds_toArray, List.set]
     refine anyR_take (i := 3) (oi := ⟨some 63, .indexAddr 22 (.tmp 61) (.tmp 62), 0, "law.go:114", #[⟨1, .data⟩, ⟨2, .data⟩], none⟩) (v := ?_) rfl (by kernel_rfl) (fun _ _ _ h => h) (Or.inl ⟨by rfl, ?_⟩) HS.out ?_
     rotate_left
     ·intro x h; (try dsimp only at h); go_simp; try (with_reducible rfl)
     try simp only [Act.put, List.setIfInBounds_toArray, List.set]
     refine anyR_take (i := 4) (oi := ⟨some 64, .load 35 (.tmp 63), 35, "law.go:114", #[⟨3, .data⟩], none⟩) (v := ?_) rfl (by kernel_rfl) (fun _ _ _ h => h) (Or.inl ⟨by rfl, ?_⟩) HS.out ?_
     rotate_left
     ·intro x h; (try dsimp only at h); go_simp; try (with_reducible rfl)
     try simp only [Act.put, List.setIfInBounds_toArray, List.set]
     refine anyR_ready (rs := [5]) (by kernel_rfl) (by simp) ?_
     refine ReadyR.cons (o := ⟨some 65, .call { callee := .value (.func 11), args := #[.tmp 60, .tmp 64], argTypes := #[29, 35] }, 4, "law.go:114", #[⟨0, .data⟩, ⟨4, .data⟩], none⟩) rfl (fun K hK => ?_) ReadyR.nil
     go_simp
     go_at_call 11
     refine Calls.mono (PutsE.putA HE.out (by have := HN.out; omega) t) ?_
     rintro e w8 ⟨rfl, hE⟩
     clear x1 x2 x3 x4 hbw c0 c1 c2 c3 c4 c5
     replace HE := Lib.hid hE
     clear hE
     obtain ⟨x1, x2, x3, x4, hbw⟩ := HE.out.cells
     obtain ⟨c0, c1, c2, c3, c4, c5⟩ := HT1.out w8 hbw
     obtain ⟨e0, e1, e2, e3, e4, e5⟩ := HT2.out w8 hbw
     refine hK.out _ _ (fun _ => ⟨x1, x2, c0, c1, c2, c3, c4, c5⟩) ?_
     clear hK K
     try simp only [Act.put, List.setIfInBounds_toArray, List.set]
     refine anyR_ready (rs := [6]) (by kernel_rfl) (by simp) ?_
     refine ReadyR.cons (o := ⟨some 11, .assign (.tmp 65), 4, "law.go:114", #[⟨5, .data⟩, ⟨5, .chain⟩, ⟨0, .phase⟩, ⟨1, .phase⟩, ⟨2, .phase⟩, ⟨3, .phase⟩, ⟨4, .phase⟩, ⟨5, .phase⟩], none⟩) rfl (fun K hK => ?_) ReadyR.nil
     go_simp
     refine hK.out _ _ (fun _ => ⟨x1, x2, c0, c1, c2, c3, c4, c5⟩) ?_
     clear hK K HS HWd
     try simp only [Act.put, List.setIfInBounds_toArray, List.set]
     refine anyR_done (by kernel_rfl) ?_ _
     clear c0 c1 c2 c3 c4 c5
     go_upto_region 16 with (fail)
     obtain ⟨Wd, hWd⟩ : ∃ V, w8.drew = V := ⟨_, rfl⟩
     have hbd : Below w8.heap.size w8 Wd := by rw [← hWd]; exact (Below.refl _ w8).drew
     have hS : Wd.cell? ⟨bb, 0, none⟩ = some (.pointer (some ⟨p2, 0, none⟩)) ∧ Wd.cell? ⟨bb, 1, none⟩ = some (.pointer (some ⟨q2, 0, none⟩)) ∧ Wd.cell? (ad2.add (i * 6)) = some (.int .u8 u.f0) ∧ Wd.cell? ⟨(ad2.add (i * 6)).block, (ad2.add (i * 6)).off + 1, none⟩ = some (.string u.f1) ∧ Wd.cell? ⟨(ad2.add (i * 6)).block, (ad2.add (i * 6)).off + 2, none⟩ = some (.int .i64 u.f2.f0) ∧ Wd.cell? ⟨(ad2.add (i * 6)).block, (ad2.add (i * 6)).off + 3, none⟩ = some (.int .i64 u.f2.f1) ∧ Wd.cell? ⟨(ad2.add (i * 6)).block, (ad2.add (i * 6)).off + 4, none⟩ = some (.int .i64 u.f2.f2) ∧ Wd.cell? ⟨(ad2.add (i * 6)).block, (ad2.add (i * 6)).off + 5, none⟩ = some (.int .i64 u.f3) := ⟨pw_cell_below hbd x3, pw_cell_below hbd x4, pw_cell_below hbd e0, pw_cell_below hbd e1, pw_cell_below hbd e2, pw_cell_below hbd e3, pw_cell_below hbd e4, pw_cell_below hbd e5⟩
     have HS := Lib.hid hS
     replace HE := Lib.hid (HE.out.below hbd)
     have HWd := Lib.hid hWd
     clear hS hbd hWd
     refine wp_region_R (fun w' => w'.cell? ⟨bb, 0, none⟩ = some (.pointer (some ⟨p2, 0, none⟩)) ∧ w'.cell? ⟨bb, 1, none⟩ = some (.pointer (some ⟨q2, 0, none⟩)) ∧ w'.cell? (ad2.add (i * 6)) = some (.int .u8 u.f0) ∧ w'.cell? ⟨(ad2.add (i * 6)).block, (ad2.add (i * 6)).off + 1, none⟩ = some (.string u.f1) ∧ w'.cell? ⟨(ad2.add (i * 6)).block, (ad2.add (i * 6)).off + 2, none⟩ = some (.int .i64 u.f2.f0) ∧ w'.cell? ⟨(ad2.add (i * 6)).block, (ad2.add (i * 6)).off + 3, none⟩ = some (.int .i64 u.f2.f1) ∧ w'.cell? ⟨(ad2.add (i * 6)).block, (ad2.add (i * 6)).off + 4, none⟩ = some (.int .i64 u.f2.f2) ∧ w'.cell? ⟨(ad2.add (i * 6)).block, (ad2.add (i * 6)).off + 5, none⟩ = some (.int .i64 u.f3)) (fun _ => true) (by kernel_rfl) ?_
     rw [HWd.out]
     refine anyR_take (i := 0) (oi := ⟨some 72, .load 29 (.tmp 9), 29, "law.go:120", #[], none⟩) (v := ?_) rfl (by kernel_rfl) (fun _ _ _ h => h) (Or.inl ⟨by rfl, ?_⟩) HS.out ?_
     rotate_left
     ·intro x h; (try dsimp only at h); go_simp; try (with_reducible rfl)
     try simp only [Act.put, List.setIfInBounds_toArray, List.set]
     refine anyR_take (i := 1) (oi := ⟨some 73, .move (.tmp 1), 22, "law.go:120", #[], none⟩) (v := ?_) rfl (by kernel_rfl) (fun _ _ _ h => h) (Or.inl ⟨by rfl, ?_⟩) HS.out ?_
     rotate_left
     ·intro x h; (try dsimp only at h); go_simp; try (with_reducible rfl)
     try simp only [Act.put, List.setIfInBounds_toArray, List.set]
     refine anyR_take (i := 2) (oi := ⟨some 74, .move (.tmp 10), 3, "law.go:120", #[], none⟩) (v := ?_) rfl (by kernel_rfl) (fun _ _ _ h => h) (Or.inl ⟨by rfl, ?_⟩) HS.out ?_
     rotate_left
     ·intro x h; (try dsimp only at h); go_simp; try (with_reducible rfl)
     try simp only [Act.put, List.setIfInBounds_toArray, List.set]
     refine anyR_take (i := 3) (oi := ⟨some 75, .indexAddr 22 (.tmp 73) (.tmp 74), 0, "law.go:120", #[⟨1, .data⟩, ⟨2, .data⟩], none⟩) (v := ?_) rfl (by kernel_rfl) (fun _ _ _ h => h) (Or.inl ⟨by rfl, ?_⟩) HS.out ?_
     rotate_left
     ·intro x h; (try dsimp only at h); go_simp; try (with_reducible rfl)
     try simp only [Act.put, List.setIfInBounds_toArray, List.set]
     refine anyR_take (i := 4) (oi := ⟨some 76, .load 35 (.tmp 75), 35, "law.go:120", #[⟨3, .data⟩], none⟩) (v := ?_) rfl (by kernel_rfl) (fun _ _ _ h => h) (Or.inl ⟨by rfl, ?_⟩) HS.out ?_
     rotate_left
     ·intro x h; (try dsimp only at h); go_simp; try (with_reducible rfl)
     try simp only [Act.put, List.setIfInBounds_toArray, List.set]
     refine anyR_ready (rs := [5]) (by kernel_rfl) (by simp) ?_
     refine ReadyR.cons (o := ⟨some 77, .call { callee := .value (.func 11), args := #[.tmp 72, .tmp 76], argTypes := #[29, 35] }, 4, "law.go:120", #[⟨0, .data⟩, ⟨4, .data⟩], none⟩) rfl (fun K hK => ?_) ReadyR.nil
     go_simp
     go_at_call 11
     refine Calls.mono (PutsE.putB HE.out (by have := HN.out; omega) u) ?_
     rintro e w9 ⟨rfl, hE⟩
     clear x1 x2 x3 x4 hbw e0 e1 e2 e3 e4 e5
     replace HE := Lib.hid hE
     clear hE
     obtain ⟨x1, x2, x3, x4, hbw⟩ := HE.out.cells
     obtain ⟨e0, e1, e2, e3, e4, e5⟩ := HT2.out w9 hbw
     refine hK.out _ _ (fun _ => ⟨x3, x4, e0, e1, e2, e3, e4, e5⟩) ?_
     clear hK K
     try simp only [Act.put, List.setIfInBounds_toArray, List.set]
     refine anyR_ready (rs := [6]) (by kernel_rfl) (by simp) ?_
     refine ReadyR.cons (o := ⟨some 12, .assign (.tmp 77), 4, "law.go:120", #[⟨5, .data⟩, ⟨5, .chain⟩, ⟨0, .phase⟩, ⟨1, .phase⟩, ⟨2, .phase⟩, ⟨3, .phase⟩, ⟨4, .phase⟩, ⟨5, .phase⟩], none⟩) rfl (fun K hK => ?_) ReadyR.nil
     go_simp
     refine hK.out _ _ (fun _ => ⟨x3, x4, e0, e1, e2, e3, e4, e5⟩) ?_
     clear hK K HS HWd
     try simp only [Act.put, List.setIfInBounds_toArray, List.set]
     refine anyR_done (by kernel_rfl) ?_ _
     clear e0 e1 e2 e3 e4 e5
     go_wp2_with (go_at_call 12; (with_reducible refine Calls.mono (PutsE.closeB HE.out (by have := HN.out; omega)) ?_); rintro e w9 ⟨rfl, hE⟩; clear x1 x2 x3 x4 hbw; replace HE := Lib.hid hE; clear hE; obtain ⟨x1, x2, x3, x4, hbw⟩ := HE.out.cells)
     go_roundw
     case rel => exact ⟨i + 1, by omega, by go_num, Lib.hid ⟨_, _, _, _, _, by have := HN.out; omega, HE.out⟩⟩
     case measure => simp [intOf] <;> omega
    ·skip
     have ka : (i : Int) < (l.length : Int) := by omega
     obtain ⟨ad, hAd, hcells⟩ := tok_cells HA.out i ha
     obtain ⟨t, ht⟩ : ∃ t, PParsePuts.rd_T35 l i = t := ⟨_, rfl⟩
     rw [ht] at hcells
     subst hAd
     have HT1 := Lib.hid hcells
     obtain ⟨c0, c1, c2, c3, c4, c5⟩ := hcells wr hbw
     clear hcells ht
     have kb : (i : Int) < (m.length : Int) := by omega
     obtain ⟨ad2, hBd, hcells⟩ := tok_cells HBB.out i hb
     obtain ⟨u, hu⟩ : ∃ u, PParsePuts.rd_T35 m i = u := ⟨_, rfl⟩
     rw [hu] at hcells
     subst hBd
     have HT2 := Lib.hid hcells
     clear hcells hu
     have kt : ((i : Int) == turn) = false := by rw [beq_eq_false_iff_ne]; exact hc
     go_upto_region 12 with (fail)
     obtain ⟨Wd, hWd⟩ : ∃ V, wr.drew = V := ⟨_, rfl⟩
     have hbd : Below wr.heap.size wr Wd := by rw [← hWd]; exact (Below.refl _ wr).drew
     have hS : Wd.cell? ⟨ba, 0, none⟩ = some (.pointer (some ⟨p1, 0, none⟩)) ∧ Wd.cell? ⟨ba, 1, none⟩ = some (.pointer (some ⟨q1, 0, none⟩)) ∧ Wd.cell? (ad.add (i * 6)) = some (.int .u8 t.f0) ∧ Wd.cell? ⟨(ad.add (i * 6)).block, (ad.add (i * 6)).off + 1, none⟩ = some (.string t.f1) ∧ Wd.cell? ⟨(ad.add (i * 6)).block, (ad.add (i * 6)).off + 2, none⟩ = some (.int .i64 t.f2.f0) ∧ Wd.cell? ⟨(ad.add (i * 6)).block, (ad.add (i * 6)).off + 3, none⟩ = some (.int .i64 t.f2.f1) ∧ Wd.cell? ⟨(ad.add (i * 6)).block, (ad.add (i * 6)).off + 4, none⟩ = some (.int .i64 t.f2.f2) ∧ Wd.cell? ⟨(ad.add (i * 6)).block, (ad.add (i * 6)).off + 5, none⟩ = some (.int .i64 t.f3) := ⟨pw_cell_below hbd x1, pw_cell_below hbd x2, pw_cell_below hbd c0, pw_cell_below hbd c1, pw_cell_below hbd c2, pw_cell_below hbd c3, pw_cell_below hbd c4, pw_cell_below hbd c5⟩
     have HS := Lib.hid hS
     replace HE := Lib.hid (HE.out.below hbd)
     have HWd := Lib.hid hWd
     clear hS hbd hWd
     refine wp_region_R (fun w' => w'.cell? ⟨ba, 0, none⟩ = some (.pointer (some ⟨p1, 0, none⟩)) ∧ w'.cell? ⟨ba, 1, none⟩ = some (.pointer (some ⟨q1, 0, none⟩)) ∧ w'.cell? (ad.add (i * 6)) = some (.int .u8 t.f0) ∧ w'.cell? ⟨(ad.add (i * 6)).block, (ad.add (i * 6)).off + 1, none⟩ = some (.string t.f1) ∧ w'.cell? ⟨(ad.add (i * 6)).block, (ad.add (i * 6)).off + 2, none⟩ = some (.int .i64 t.f2.f0) ∧ w'.cell? ⟨(ad.add (i * 6)).block, (ad.add (i * 6)).off + 3, none⟩ = some (.int .i64 t.f2.f1) ∧ w'.cell? ⟨(ad.add (i * 6)).block, (ad.add (i * 6)).off + 4, none⟩ = some (.int .i64 t.f2.f2) ∧ w'.cell? ⟨(ad.add (i * 6)).block, (ad.add (i * 6)).off + 5, none⟩ = some (.int .i64 t.f3)) (fun _ => true) (by kernel_rfl) ?_
     rw [HWd.out]
     refine anyR_take (i := 0) (oi := ⟨some 60, .load 29 (.tmp 8), 29, "law.go:114", #[], none⟩) (v := ?_) rfl (by kernel_rfl) (fun _ _ _ h => h) (Or.inl ⟨by rfl, ?_⟩) HS.out ?_
     rotate_left
     ·intro x h; (try dsimp only at h); go_simp; try (with_reducible rfl)
     try simp only [Act.put, List.setIfInBounds_toArray, List.set]
     refine anyR_take (i := 1) (oi := ⟨some 61, .move (.tmp 0), 22, "law.go:114", #[], none⟩) (v := ?_) rfl (by kernel_rfl) (fun _ _ _ h => h) (Or.inl ⟨by rfl, ?_⟩) HS.out ?_
     rotate_left
     ·intro x h; (try dsimp only at h); go_simp; try (with_reducible rfl)
     try simp only [Act.put, List.setIfInBounds_toArray, List.set]
     refine anyR_take (i := 2) (oi := ⟨some 62, .move (.tmp 10), 3, "law.go:114", #[], none⟩) (v := ?_) rfl (by kernel_rfl) (fun _ _ _ h => h) (Or.inl ⟨by rfl, ?_⟩) HS.out ?_
     rotate_left
     ·intro x h; (try dsimp only at h); go_simp; try (with_reducible rfl)
     try simp only [Act.put, List.setIfInBounds_toArray, List.set]
     refine anyR_take (i := 3) (oi := ⟨some 63, .indexAddr 22 (.tmp 61) (.tmp 62), 0, "law.go:114", #[⟨1, .data⟩, ⟨2, .data⟩], none⟩) (v := ?_) rfl (by kernel_rfl) (fun _ _ _ h => h) (Or.inl ⟨by rfl, ?_⟩) HS.out ?_
     rotate_left
     ·intro x h; (try dsimp only at h); go_simp; try (with_reducible rfl)
     try simp only [Act.put, List.setIfInBounds_toArray, List.set]
     refine anyR_take (i := 4) (oi := ⟨some 64, .load 35 (.tmp 63), 35, "law.go:114", #[⟨3, .data⟩], none⟩) (v := ?_) rfl (by kernel_rfl) (fun _ _ _ h => h) (Or.inl ⟨by rfl, ?_⟩) HS.out ?_
     rotate_left
     ·intro x h; (try dsimp only at h); go_simp; try (with_reducible rfl)
     try simp only [Act.put, List.setIfInBounds_toArray, List.set]
     refine anyR_ready (rs := [5]) (by kernel_rfl) (by simp) ?_
     refine ReadyR.cons (o := ⟨some 65, .call { callee := .value (.func 11), args := #[.tmp 60, .tmp 64], argTypes := #[29, 35] }, 4, "law.go:114", #[⟨0, .data⟩, ⟨4, .data⟩], none⟩) rfl (fun K hK => ?_) ReadyR.nil
     go_simp
     go_at_call 11
     refine Calls.mono (PutsE.putA HE.out (by have := HN.out; omega) t) ?_
     rintro e w8 ⟨rfl, hE⟩
     clear x1 x2 x3 x4 hbw c0 c1 c2 c3 c4 c5
     replace HE := Lib.hid hE
     clear hE
     obtain ⟨x1, x2, x3, x4, hbw⟩ := HE.out.cells
     obtain ⟨c0, c1, c2, c3, c4, c5⟩ := HT1.out w8 hbw
     obtain ⟨e0, e1, e2, e3, e4, e5⟩ := HT2.out w8 hbw
     refine hK.out _ _ (fun _ => ⟨x1, x2, c0, c1, c2, c3, c4, c5⟩) ?_
     clear hK K
     try simp only [Act.put, List.setIfInBounds_toArray, List.set]
     refine anyR_ready (rs := [6]) (by kernel_rfl) (by simp) ?_
     refine ReadyR.cons (o := ⟨some 11, .assign (.tmp 65), 4, "law.go:114", #[⟨5, .data⟩, ⟨5, .chain⟩, ⟨0, .phase⟩, ⟨1, .phase⟩, ⟨2, .phase⟩, ⟨3, .phase⟩, ⟨4, .phase⟩, ⟨5, .phase⟩], none⟩) rfl (fun K hK => ?_) ReadyR.nil
     go_simp
     refine hK.out _ _ (fun _ => ⟨x1, x2, c0, c1, c2, c3, c4, c5⟩) ?_
     clear hK K HS HWd
     try simp only [Act.put, List.setIfInBounds_toArray, List.set]
     refine anyR_done (by kernel_rfl) ?_ _
     clear c0 c1 c2 c3 c4 c5
     go_upto_region 16 with (fail)
     obtain ⟨Wd, hWd⟩ : ∃ V, w8.drew = V := ⟨_, rfl⟩
     have hbd : Below w8.heap.size w8 Wd := by rw [← hWd]; exact (Below.refl _ w8).drew
     have hS : Wd.cell? ⟨bb, 0, none⟩ = some (.pointer (some ⟨p2, 0, none⟩)) ∧ Wd.cell? ⟨bb, 1, none⟩ = some (.pointer (some ⟨q2, 0, none⟩)) ∧ Wd.cell? (ad2.add (i * 6)) = some (.int .u8 u.f0) ∧ Wd.cell? ⟨(ad2.add (i * 6)).block, (ad2.add (i * 6)).off + 1, none⟩ = some (.string u.f1) ∧ Wd.cell? ⟨(ad2.add (i * 6)).block, (ad2.add (i * 6)).off + 2, none⟩ = some (.int .i64 u.f2.f0) ∧ Wd.cell? ⟨(ad2.add (i * 6)).block, (ad2.add (i * 6)).off + 3, none⟩ = some (.int .i64 u.f2.f1) ∧ Wd.cell? ⟨(ad2.add (i * 6)).block, (ad2.add (i * 6)).off + 4, none⟩ = some (.int .i64 u.f2.f2) ∧ Wd.cell? ⟨(ad2.add (i * 6)).block, (ad2.add (i * 6)).off + 5, none⟩ = some (.int .i64 u.f3) := ⟨pw_cell_below hbd x3, pw_cell_below hbd x4, pw_cell_below hbd e0, pw_cell_below hbd e1, pw_cell_below hbd e2, pw_cell_below hbd e3, pw_cell_below hbd e4, pw_cell_below hbd e5⟩
     have HS := Lib.hid hS
     replace HE := Lib.hid (HE.out.below hbd)
     have HWd := Lib.hid hWd
     clear hS hbd hWd
     refine wp_region_R (fun w' => w'.cell? ⟨bb, 0, none⟩ = some (.pointer (some ⟨p2, 0, none⟩)) ∧ w'.cell? ⟨bb, 1, none⟩ = some (.pointer (some ⟨q2, 0, none⟩)) ∧ w'.cell? (ad2.add (i * 6)) = some (.int .u8 u.f0) ∧ w'.cell? ⟨(ad2.add (i * 6)).block, (ad2.add (i * 6)).off + 1, none⟩ = some (.string u.f1) ∧ w'.cell? ⟨(ad2.add (i * 6)).block, (ad2.add (i * 6)).off + 2, none⟩ = some (.int .i64 u.f2.f0) ∧ w'.cell? ⟨(ad2.add (i * 6)).block, (ad2.add (i * 6)).off + 3, none⟩ = some (.int .i64 u.f2.f1) ∧ w'.cell? ⟨(ad2.add (i * 6)).block, (ad2.add (i * 6)).off + 4, none⟩ = some (.int .i64 u.f2.f2) ∧ w'.cell? ⟨(ad2.add (i * 6)).block, (ad2.add (i * 6)).off + 5, none⟩ = some (.int .i64 u.f3)) (fun _ => true) (by kernel_rfl) ?_
     rw [HWd.out]
     refine anyR_take (i := 0) (oi := ⟨some 72, .load 29 (.tmp 9), 29, "law.go:120", #[], none⟩) (v := ?_) rfl (by kernel_rfl) (fun _ _ _ h => h) (Or.inl ⟨by rfl, ?_⟩) HS.out ?_
     rotate_left
     ·intro x h; (try dsimp only at h); go_simp; try (with_reducible rfl)
     try simp only [Act.put, List.setIfInBounds_toArray, List.set]
     refine anyR_take (i := 1) (oi := ⟨some 73, .move (.tmp 1), 22, "law.go:120", #[], none⟩) (v := ?_) rfl (by kernel_rfl) (fun _ _ _ h => h) (Or.inl ⟨by rfl, ?_⟩) HS.out ?_
     rotate_left
     ·intro x h; (try dsimp only at h); go_simp; try (with_reducible rfl)
     try simp only [Act.put, List.setIfInBounds_toArray, List.set]
     refine anyR_take (i := 2) (oi := ⟨some 74, .move (.tmp 10), 3, "law.go:120", #[], none⟩) (v := ?_) rfl (by kernel_rfl) (fun _ _ _ h => h) (Or.inl ⟨by rfl, ?_⟩) HS.out ?_
     rotate_left
     ·intro x h; (try dsimp only at h); go_simp; try (with_reducible rfl)
     try simp only [Act.put, List.setIfInBounds_toArray, List.set]
     refine anyR_take (i := 3) (oi := ⟨some 75, .indexAddr 22 (.tmp 73) (.tmp 74), 0, "law.go:120", #[⟨1, .data⟩, ⟨2, .data⟩], none⟩) (v := ?_) rfl (by kernel_rfl) (fun _ _ _ h => h) (Or.inl ⟨by rfl, ?_⟩) HS.out ?_
     rotate_left
     ·intro x h; (try dsimp only at h); go_simp; try (with_reducible rfl)
     try simp only [Act.put, List.setIfInBounds_toArray, List.set]
     refine anyR_take (i := 4) (oi := ⟨some 76, .load 35 (.tmp 75), 35, "law.go:120", #[⟨3, .data⟩], none⟩) (v := ?_) rfl (by kernel_rfl) (fun _ _ _ h => h) (Or.inl ⟨by rfl, ?_⟩) HS.out ?_
     rotate_left
     ·intro x h; (try dsimp only at h); go_simp; try (with_reducible rfl)
     try simp only [Act.put, List.setIfInBounds_toArray, List.set]
     refine anyR_ready (rs := [5]) (by kernel_rfl) (by simp) ?_
     refine ReadyR.cons (o := ⟨some 77, .call { callee := .value (.func 11), args := #[.tmp 72, .tmp 76], argTypes := #[29, 35] }, 4, "law.go:120", #[⟨0, .data⟩, ⟨4, .data⟩], none⟩) rfl (fun K hK => ?_) ReadyR.nil
     go_simp
     go_at_call 11
     refine Calls.mono (PutsE.putB HE.out (by have := HN.out; omega) u) ?_
     rintro e w9 ⟨rfl, hE⟩
     clear x1 x2 x3 x4 hbw e0 e1 e2 e3 e4 e5
     replace HE := Lib.hid hE
     clear hE
     obtain ⟨x1, x2, x3, x4, hbw⟩ := HE.out.cells
     obtain ⟨e0, e1, e2, e3, e4, e5⟩ := HT2.out w9 hbw
     refine hK.out _ _ (fun _ => ⟨x3, x4, e0, e1, e2, e3, e4, e5⟩) ?_
     clear hK K
     try simp only [Act.put, List.setIfInBounds_toArray, List.set]
     refine anyR_ready (rs := [6]) (by kernel_rfl) (by simp) ?_
     refine ReadyR.cons (o := ⟨some 12, .assign (.tmp 77), 4, "law.go:120", #[⟨5, .data⟩, ⟨5, .chain⟩, ⟨0, .phase⟩, ⟨1, .phase⟩, ⟨2, .phase⟩, ⟨3, .phase⟩, ⟨4, .phase⟩, ⟨5, .phase⟩], none⟩) rfl (fun K hK => ?_) ReadyR.nil
     go_simp
     refine hK.out _ _ (fun _ => ⟨x3, x4, e0, e1, e2, e3, e4, e5⟩) ?_
     clear hK K HS HWd
     try simp only [Act.put, List.setIfInBounds_toArray, List.set]
     refine anyR_done (by kernel_rfl) ?_ _
     clear e0 e1 e2 e3 e4 e5
     go_wp2
     go_roundw
     case rel => exact ⟨i + 1, by omega, by go_num, Lib.hid ⟨_, _, _, _, _, by have := HN.out; omega, HE.out⟩⟩
     case measure => simp [intOf] <;> omega
   ·by_cases hc : (i : Int) = turn
    ·skip
     have ka : (i : Int) < (l.length : Int) := by omega
     obtain ⟨ad, hAd, hcells⟩ := tok_cells HA.out i ha
     obtain ⟨t, ht⟩ : ∃ t, PParsePuts.rd_T35 l i = t := ⟨_, rfl⟩
     rw [ht] at hcells
     subst hAd
     have HT1 := Lib.hid hcells
     obtain ⟨c0, c1, c2, c3, c4, c5⟩ := hcells wr hbw
     clear hcells ht
     have kb : ¬ (i : Int) < (m.length : Int) := by omega
     subst hc
     go_upto_region 12 with (fail)
     obtain ⟨Wd, hWd⟩ : ∃ V, wr.drew = V := ⟨_, rfl⟩
     have hbd : Below wr.heap.size wr Wd := by rw [← hWd]; exact (Below.refl _ wr).drew
     have hS : Wd.cell? ⟨ba, 0, none⟩ = some (.pointer (some ⟨p1, 0, none⟩)) ∧ Wd.cell? ⟨ba, 1, none⟩ = some (.pointer (some ⟨q1, 0, none⟩)) ∧ Wd.cell? (ad.add (i * 6)) = some (.int .u8 t.f0) ∧ Wd.cell? ⟨(ad.add (i * 6)).block, (ad.add (i * 6)).off + 1, none⟩ = some (.string t.f1) ∧ Wd.cell? ⟨(ad.add (i * 6)).block, (ad.add (i * 6)).off + 2, none⟩ = some (.int .i64 t.f2.f0) ∧ Wd.cell? ⟨(ad.add (i * 6)).block, (ad.add (i * 6)).off + 3, none⟩ = some (.int .i64 t.f2.f1) ∧ Wd.cell? ⟨(ad.add (i * 6)).block, (ad.add (i * 6)).off + 4, none⟩ = some (.int .i64 t.f2.f2) ∧ Wd.cell? ⟨(ad.add (i * 6)).block, (ad.add (i * 6)).off + 5, none⟩ = some (.int .i64 t.f3) := ⟨pw_cell_below hbd x1, pw_cell_below hbd x2, pw_cell_below hbd c0, pw_cell_below hbd c1, pw_cell_below hbd c2, pw_cell_below hbd c3, pw_cell_below hbd c4, pw_cell_below hbd c5⟩
     have HS := Lib.hid hS
     replace HE := Lib.hid (HE.out.below hbd)
     have HWd := Lib.hid hWd
     clear hS hbd hWd
     refine wp_region_R (fun w' => w'.cell? ⟨ba, 0, none⟩ = some (.pointer (some ⟨p1, 0, none⟩)) ∧ w'.cell? ⟨ba, 1, none⟩ = some (.pointer (some ⟨q1, 0, none⟩)) ∧ w'.cell? (ad.add (i * 6)) = some (.int .u8 t.f0) ∧ w'.cell? ⟨(ad.add (i * 6)).block, (ad.add (i * 6)).off + 1, none⟩ = some (.string t.f1) ∧ w'.cell? ⟨(ad.add (i * 6)).block, (ad.add (i * 6)).off + 2, none⟩ = some (.int .i64 t.f2.f0) ∧ w'.cell? ⟨(ad.add (i * 6)).block, (ad.add (i * 6)).off + 3, none⟩ = some (.int .i64 t.f2.f1) ∧ w'.cell? ⟨(ad.add (i * 6)).block, (ad.add (i * 6)).off + 4, none⟩ = some (.int .i64 t.f2.f2) ∧ w'.cell? ⟨(ad.add (i * 6)).block, (ad.add (i * 6)).off + 5, none⟩ = some (.int .i64 t.f3)) (fun _ => true) (by kernel_rfl) ?_
     rw [HWd.out]
     refine anyR_take (i := 0) (oi := ⟨some 60, .load 29 (.tmp 8), 29, "law.go:114", #[], none⟩) (v := ?_) rfl (by kernel_rfl) (fun _ _ _ h => h) (Or.inl ⟨by rfl, ?_⟩) HS.out ?_
     rotate_left
     ·intro x h; (try dsimp only at h); go_simp; try (with_reducible rfl)
     try simp only [Act.put, List.setIfInBounds_toArray, List.set]
     refine anyR_take (i := 1) (oi := ⟨some 61, .move (.tmp 0), 22, "law.go:114", #[], none⟩) (v := ?_) rfl (by kernel_rfl) (fun _ _ _ h => h) (Or.inl ⟨by rfl, ?_⟩) HS.out ?_
     rotate_left
     ·intro x h; (try dsimp only at h); go_simp; try (with_reducible rfl)
     try simp only [Act.put, List.setIfInBounds_toArray, List.set]
     refine anyR_take (i := 2) (oi := ⟨some 62, .move (.tmp 10), 3, "law.go:114", #[], none⟩) (v := ?_) rfl (by kernel_rfl) (fun _ _ _ h => h) (Or.inl ⟨by rfl, ?_⟩) HS.out ?_
     rotate_left
     ·intro x h; (try dsimp only at h); go_simp; try (with_reducible rfl)
     try simp only [Act.put, List.setIfInBounds_toArray, List.set]
     refine anyR_take (i := 3) (oi := ⟨some 63, .indexAddr 22 (.tmp 61) (.tmp 62), 0, "law.go:114", #[⟨1, .data⟩, ⟨2, .data⟩], none⟩) (v := ?_) rfl (by kernel_rfl) (fun _ _ _ h => h) (Or.inl ⟨by rfl, ?_⟩) HS.out ?_
     rotate_left
     ·intro x h; (try dsimp only at h); go_simp; try (with_reducible rfl)
     try simp only [Act.put, List.setIfInBounds_toArray, List.set]
     refine anyR_take (i := 4) (oi := ⟨some 64, .load 35 (.tmp 63), 35, "law.go:114", #[⟨3, .data⟩], none⟩) (v := ?_) rfl (by kernel_rfl) (fun _ _ _ h => h) (Or.inl ⟨by rfl, ?_⟩) HS.out ?_
     rotate_left
     ·intro x h; (try dsimp only at h); go_simp; try (with_reducible rfl)
     try simp only [Act.put, List.setIfInBounds_toArray, List.set]
     refine anyR_ready (rs := [5]) (by kernel_rfl) (by simp) ?_
     refine ReadyR.cons (o := ⟨some 65, .call { callee := .value (.func 11), args := #[.tmp 60, .tmp 64], argTypes := #[29, 35] }, 4, "law.go:114", #[⟨0, .data⟩, ⟨4, .data⟩], none⟩) rfl (fun K hK => ?_) ReadyR.nil
     go_simp
     go_at_call 11
     refine Calls.mono (PutsE.putA HE.out (by have := HN.out; omega) t) ?_
     rintro e w8 ⟨rfl, hE⟩
     clear x1 x2 x3 x4 hbw c0 c1 c2 c3 c4 c5
     replace HE := Lib.hid hE
     clear hE
     obtain ⟨x1, x2, x3, x4, hbw⟩ := HE.out.cells
     obtain ⟨c0, c1, c2, c3, c4, c5⟩ := HT1.out w8 hbw
     refine hK.out _ _ (fun _ => ⟨x1, x2, c0, c1, c2, c3, c4, c5⟩) ?_
     clear hK K
     try simp only [Act.put, List.setIfInBounds_toArray, List.set]
     refine anyR_ready (rs := [6]) (by kernel_rfl) (by simp) ?_
     refine ReadyR.cons (o := ⟨some 11, .assign (.tmp 65), 4, "law.go:114", #[⟨5, .data⟩, ⟨5, .chain⟩, ⟨0, .phase⟩, ⟨1, .phase⟩, ⟨2, .phase⟩, ⟨3, .phase⟩, ⟨4, .phase⟩, ⟨5, .phase⟩], none⟩) rfl (fun K hK => ?_) ReadyR.nil
     go_simp
     refine hK.out _ _ (fun _ => ⟨x1, x2, c0, c1, c2, c3, c4, c5⟩) ?_
     clear hK K HS HWd
     try simp only [Act.put, List.setIfInBounds_toArray, List.set]
     refine anyR_done (by kernel_rfl) ?_ _
     clear c0 c1 c2 c3 c4 c5
     go_wp2_with (go_at_call 12; (with_reducible refine Calls.mono (PutsE.closeB HE.out (by have := HN.out; omega)) ?_); rintro e w9 ⟨rfl, hE⟩; clear x1 x2 x3 x4 hbw; replace HE := Lib.hid hE; clear hE; obtain ⟨x1, x2, x3, x4, hbw⟩ := HE.out.cells)
     go_roundw
     case rel => exact ⟨i + 1, by omega, by go_num, Lib.hid ⟨_, _, _, _, _, by have := HN.out; omega, HE.out⟩⟩
     case measure => simp [intOf] <;> omega
    ·skip
     have ka : (i : Int) < (l.length : Int) := by omega
     obtain ⟨ad, hAd, hcells⟩ := tok_cells HA.out i ha
     obtain ⟨t, ht⟩ : ∃ t, PParsePuts.rd_T35 l i = t := ⟨_, rfl⟩
     rw [ht] at hcells
     subst hAd
     have HT1 := Lib.hid hcells
     obtain ⟨c0, c1, c2, c3, c4, c5⟩ := hcells wr hbw
     clear hcells ht
     have kb : ¬ (i : Int) < (m.length : Int) := by omega
     have kt : ((i : Int) == turn) = false := by rw [beq_eq_false_iff_ne]; exact hc
     go_upto_region 12 with (fail)
     obtain ⟨Wd, hWd⟩ : ∃ V, wr.drew = V := ⟨_, rfl⟩
     have hbd : Below wr.heap.size wr Wd := by rw [← hWd]; exact (Below.refl _ wr).drew
     have hS : Wd.cell? ⟨ba, 0, none⟩ = some (.pointer (some ⟨p1, 0, none⟩)) ∧ Wd.cell? ⟨ba, 1, none⟩ = some (.pointer (some ⟨q1, 0, none⟩)) ∧ Wd.cell? (ad.add (i * 6)) = some (.int .u8 t.f0) ∧ Wd.cell? ⟨(ad.add (i * 6)).block, (ad.add (i * 6)).off + 1, none⟩ = some (.string t.f1) ∧ Wd.cell? ⟨(ad.add (i * 6)).block, (ad.add (i * 6)).off + 2, none⟩ = some (.int .i64 t.f2.f0) ∧ Wd.cell? ⟨(ad.add (i * 6)).block, (ad.add (i * 6)).off + 3, none⟩ = some (.int .i64 t.f2.f1) ∧ Wd.cell? ⟨(ad.add (i * 6)).block, (ad.add (i * 6)).off + 4, none⟩ = some (.int .i64 t.f2.f2) ∧ Wd.cell? ⟨(ad.add (i * 6)).block, (ad.add (i * 6)).off + 5, none⟩ = some (.int .i64 t.f3) := ⟨pw_cell_below hbd x1, pw_cell_below hbd x2, pw_cell_below hbd c0, pw_cell_below hbd c1, pw_cell_below hbd c2, pw_cell_below hbd c3, pw_cell_below hbd c4, pw_cell_below hbd c5⟩
     have HS := Lib.hid hS
     replace HE := Lib.hid (HE.out.below hbd)
     have HWd := Lib.hid hWd
     clear hS hbd hWd
     refine wp_region_R (fun w' => w'.cell? ⟨ba, 0, none⟩ = some (.pointer (some ⟨p1, 0, none⟩)) ∧ w'.cell? ⟨ba, 1, none⟩ = some (.pointer (some ⟨q1, 0, none⟩)) ∧ w'.cell? (ad.add (i * 6)) = some (.int .u8 t.f0) ∧ w'.cell? ⟨(ad.add (i * 6)).block, (ad.add (i * 6)).off + 1, none⟩ = some (.string t.f1) ∧ w'.cell? ⟨(ad.add (i * 6)).block, (ad.add (i * 6)).off + 2, none⟩ = some (.int .i64 t.f2.f0) ∧ w'.cell? ⟨(ad.add (i * 6)).block, (ad.add (i * 6)).off + 3, none⟩ = some (.int .i64 t.f2.f1) ∧ w'.cell? ⟨(ad.add (i * 6)).block, (ad.add (i * 6)).off + 4, none⟩ = some (.int .i64 t.f2.f2) ∧ w'.cell? ⟨(ad.add (i * 6)).block, (ad.add (i * 6)).off + 5, none⟩ = some (.int .i64 t.f3)) (fun _ => true) (by kernel_rfl) ?_
     rw [HWd.out]
     refine anyR_take (i := 0) (oi := ⟨some 60, .load 29 (.tmp 8), 29, "law.go:114", #[], none⟩) (v := ?_) rfl (by kernel_rfl) (fun _ _ _ h => h) (Or.inl ⟨by rfl, ?_⟩) HS.out ?_
     rotate_left
     ·intro x h; (try dsimp only at h); go_simp; try (with_reducible rfl)
     try simp only [Act.put, List.setIfInBounds_toArray, List.set]
     refine anyR_take (i := 1) (oi := ⟨some 61, .move (.tmp 0), 22, "law.go:114", #[], none⟩) (v := ?_) rfl (by kernel_rfl) (fun _ _ _ h => h) (Or.inl ⟨by rfl, ?_⟩) HS.out ?_
     rotate_left
     ·intro x h; (try dsimp only at h); go_simp; try (with_reducible rfl)
     try simp only [Act.put, List.setIfInBounds_toArray, List.set]
     refine anyR_take (i := 2) (oi := ⟨some 62, .move (.tmp 10), 3, "law.go:114", #[], none⟩) (v := ?_) rfl (by kernel_rfl) (fun _ _ _ h => h) (Or.inl ⟨by rfl, ?_⟩) HS.out ?_
     rotate_left
     ·intro x h; (try dsimp only at h); go_simp; try (with_reducible rfl)
     try simp only [Act.put, List.setIfInBounds_toArray, List.set]
     refine anyR_take (i := 3) (oi := ⟨some 63, .indexAddr 22 (.tmp 61) (.tmp 62), 0, "law.go:114", #[⟨1, .data⟩, ⟨2, .data⟩], none⟩) (v := ?_) rfl (by kernel_rfl) (fun _ _ _ h => h) (Or.inl ⟨by rfl, ?_⟩) HS.out ?_
     rotate_left
     ·intro x h; (try dsimp only at h); go_simp; try (with_reducible rfl)
     try simp only [Act.put, List.setIfInBounds_toArray, List.set]
     refine anyR_take (i := 4) (oi := ⟨some 64, .load 35 (.tmp 63), 35, "law.go:114", #[⟨3, .data⟩], none⟩) (v := ?_) rfl (by kernel_rfl) (fun _ _ _ h => h) (Or.inl ⟨by rfl, ?_⟩) HS.out ?_
     rotate_left
     ·intro x h; (try dsimp only at h); go_simp; try (with_reducible rfl)
     try simp only [Act.put, List.setIfInBounds_toArray, List.set]
     refine anyR_ready (rs := [5]) (by kernel_rfl) (by simp) ?_
     refine ReadyR.cons (o := ⟨some 65, .call { callee := .value (.func 11), args := #[.tmp 60, .tmp 64], argTypes := #[29, 35] }, 4, "law.go:114", #[⟨0, .data⟩, ⟨4, .data⟩], none⟩) rfl (fun K hK => ?_) ReadyR.nil
     go_simp
     go_at_call 11
     refine Calls.mono (PutsE.putA HE.out (by have := HN.out; omega) t) ?_
     rintro e w8 ⟨rfl, hE⟩
     clear x1 x2 x3 x4 hbw c0 c1 c2 c3 c4 c5
     replace HE := Lib.hid hE
     clear hE
     obtain ⟨x1, x2, x3, x4, hbw⟩ := HE.out.cells
     obtain ⟨c0, c1, c2, c3, c4, c5⟩ := HT1.out w8 hbw
     refine hK.out _ _ (fun _ => ⟨x1, x2, c0, c1, c2, c3, c4, c5⟩) ?_
     clear hK K
     try simp only [Act.put, List.setIfInBounds_toArray, List.set]
     refine anyR_ready (rs := [6]) (by kernel_rfl) (by simp) ?_
     refine ReadyR.cons (o := ⟨some 11, .assign (.tmp 65), 4, "law.go:114", #[⟨5, .data⟩, ⟨5, .chain⟩, ⟨0, .phase⟩, ⟨1, .phase⟩, ⟨2, .phase⟩, ⟨3, .phase⟩, ⟨4, .phase⟩, ⟨5, .phase⟩], none⟩) rfl (fun K hK => ?_) ReadyR.nil
     go_simp
     refine hK.out _ _ (fun _ => ⟨x1, x2, c0, c1, c2, c3, c4, c5⟩) ?_
     clear hK K HS HWd
     try simp only [Act.put, List.setIfInBounds_toArray, List.set]
     refine anyR_done (by kernel_rfl) ?_ _
     clear c0 c1 c2 c3 c4 c5
     go_wp2
     go_roundw
     case rel => exact ⟨i + 1, by omega, by go_num, Lib.hid ⟨_, _, _, _, _, by have := HN.out; omega, HE.out⟩⟩
     case measure => simp [intOf] <;> omega
  ·by_cases hb : i < m.length
   ·by_cases hc : (i : Int) = turn
    ·skip
     have ka : ¬ (i : Int) < (l.length : Int) := by omega
     have kb : (i : Int) < (m.length : Int) := by omega
     obtain ⟨ad2, hBd, hcells⟩ := tok_cells HBB.out i hb
     obtain ⟨u, hu⟩ : ∃ u, PParsePuts.rd_T35 m i = u := ⟨_, rfl⟩
     rw [hu] at hcells
     subst hBd
     have HT2 := Lib.hid hcells
     obtain ⟨e0, e1, e2, e3, e4, e5⟩ := hcells wr hbw
     clear hcells hu
     subst hc
     go_upto_region 16 with (fail)
     obtain ⟨Wd, hWd⟩ : ∃ V, wr.drew = V := ⟨_, rfl⟩
     have hbd : Below wr.heap.size wr Wd := by rw [← hWd]; exact (Below.refl _ wr).drew
     have hS : Wd.cell? ⟨bb, 0, none⟩ = some (.pointer (some ⟨p2, 0, none⟩)) ∧ Wd.cell? ⟨bb, 1, none⟩ = some (.pointer (some ⟨q2, 0, none⟩)) ∧ Wd.cell? (ad2.add (i * 6)) = some (.int .u8 u.f0) ∧ Wd.cell? ⟨(ad2.add (i * 6)).block, (ad2.add (i * 6)).off + 1, none⟩ = some (.string u.f1) ∧ Wd.cell? ⟨(ad2.add (i * 6)).block, (ad2.add (i * 6)).off + 2, none⟩ = some (.int .i64 u.f2.f0) ∧ Wd.cell? ⟨(ad2.add (i * 6)).block, (ad2.add (i * 6)).off + 3, none⟩ = some (.int .i64 u.f2.f1) ∧ Wd.cell? ⟨(ad2.add (i * 6)).block, (ad2.add (i * 6)).off + 4, none⟩ = some (.int .i64 u.f2.f2) ∧ Wd.cell? ⟨(ad2.add (i * 6)).block, (ad2.add (i * 6)).off + 5, none⟩ = some (.int .i64 u.f3) := ⟨pw_cell_below hbd x3, pw_cell_below hbd x4, pw_cell_below hbd e0, pw_cell_below hbd e1, pw_cell_below hbd e2, pw_cell_below hbd e3, pw_cell_below hbd e4, pw_cell_below hbd e5⟩
     have HS := Lib.hid hS
     replace HE := Lib.hid (HE.out.below hbd)
     have HWd := Lib.hid hWd
     clear hS hbd hWd
     refine wp_region_R (fun w' => w'.cell? ⟨bb, 0, none⟩ = some (.pointer (some ⟨p2, 0, none⟩)) ∧ w'.cell? ⟨bb, 1, none⟩ = some (.pointer (some ⟨q2, 0, none⟩)) ∧ w'.cell? (ad2.add (i * 6)) = some (.int .u8 u.f0) ∧ w'.cell? ⟨(ad2.add (i * 6)).block, (ad2.add (i * 6)).off + 1, none⟩ = some (.string u.f1) ∧ w'.cell? ⟨(ad2.add (i * 6)).block, (ad2.add (i * 6)).off + 2, none⟩ = some (.int .i64 u.f2.f0) ∧ w'.cell? ⟨(ad2.add (i * 6)).block, (ad2.add (i * 6)).off + 3, none⟩ = some (.int .i64 u.f2.f1) ∧ w'.cell? ⟨(ad2.add (i * 6)).block, (ad2.add (i * 6)).off + 4, none⟩ = some (.int .i64 u.f2.f2) ∧ w'.cell? ⟨(ad2.add (i * 6)).block, (ad2.add (i * 6)).off + 5, none⟩ = some (.int .i64 u.f3)) (fun _ => true) (by kernel_rfl) ?_
     rw [HWd.out]
     refine anyR_take (i := 0) (oi := ⟨some 72, .load 29 (.tmp 9), 29, "law.go:120", #[], none⟩) (v := ?_) rfl (by kernel_rfl) (fun _ _ _ h => h) (Or.inl ⟨by rfl, ?_⟩) HS.out ?_
     rotate_left
     ·intro x h; (try dsimp only at h); go_simp; try (with_reducible rfl)
     try simp only [Act.put, List.setIfInBounds_toArray, List.set]
     refine anyR_take (i := 1) (oi := ⟨some 73, .move (.tmp 1), 22, "law.go:120", #[], none⟩) (v := ?_) rfl (by kernel_rfl) (fun _ _ _ h => h) (Or.inl ⟨by rfl, ?_⟩) HS.out ?_
     rotate_left
     ·intro x h; (try dsimp only at h); go_simp; try (with_reducible rfl)
     try simp only [Act.put, List.setIfInBounds_toArray, List.set]
     refine anyR_take (i := 2) (oi := ⟨some 74, .move (.tmp 10), 3, "law.go:120", #[], none⟩) (v := ?_) rfl (by kernel_rfl) (fun _ _ _ h => h) (Or.inl ⟨by rfl, ?_⟩) HS.out ?_
     rotate_left
     ·intro x h; (try dsimp only at h); go_simp; try (with_reducible rfl)
     try simp only [Act.put, List.setIfInBounds_toArray, List.set]
     refine anyR_take (i := 3) (oi := ⟨some 75, .indexAddr 22 (.tmp 73) (.tmp 74), 0, "law.go:120", #[⟨1, .data⟩, ⟨2, .data⟩], none⟩) (v := ?_) rfl (by kernel_rfl) (fun _ _ _ h => h) (Or.inl ⟨by rfl, ?_⟩) HS.out ?_
     rotate_left
     ·intro x h; (try dsimp only at h); go_simp; try (with_reducible rfl)
     try simp only [Act.put, List.setIfInBounds_toArray, List.set]
     refine anyR_take (i := 4) (oi := ⟨some 76, .load 35 (.tmp 75), 35, "law.go:120", #[⟨3, .data⟩], none⟩) (v := ?_) rfl (by kernel_rfl) (fun _ _ _ h => h) (Or.inl ⟨by rfl, ?_⟩) HS.out ?_
     rotate_left
     ·intro x h; (try dsimp only at h); go_simp; try (with_reducible rfl)
     try simp only [Act.put, List.setIfInBounds_toArray, List.set]
     refine anyR_ready (rs := [5]) (by kernel_rfl) (by simp) ?_
     refine ReadyR.cons (o := ⟨some 77, .call { callee := .value (.func 11), args := #[.tmp 72, .tmp 76], argTypes := #[29, 35] }, 4, "law.go:120", #[⟨0, .data⟩, ⟨4, .data⟩], none⟩) rfl (fun K hK => ?_) ReadyR.nil
     go_simp
     go_at_call 11
     refine Calls.mono (PutsE.putB HE.out (by have := HN.out; omega) u) ?_
     rintro e w9 ⟨rfl, hE⟩
     clear x1 x2 x3 x4 hbw e0 e1 e2 e3 e4 e5
     replace HE := Lib.hid hE
     clear hE
     obtain ⟨x1, x2, x3, x4, hbw⟩ := HE.out.cells
     obtain ⟨e0, e1, e2, e3, e4, e5⟩ := HT2.out w9 hbw
     refine hK.out _ _ (fun _ => ⟨x3, x4, e0, e1, e2, e3, e4, e5⟩) ?_
     clear hK K
     try simp only [Act.put, List.setIfInBounds_toArray, List.set]
     refine anyR_ready (rs := [6]) (by kernel_rfl) (by simp) ?_
     refine ReadyR.cons (o := ⟨some 12, .assign (.tmp 77), 4, "law.go:120", #[⟨5, .data⟩, ⟨5, .chain⟩, ⟨0, .phase⟩, ⟨1, .phase⟩, ⟨2, .phase⟩, ⟨3, .phase⟩, ⟨4, .phase⟩, ⟨5, .phase⟩], none⟩) rfl (fun K hK => ?_) ReadyR.nil
     go_simp
     refine hK.out _ _ (fun _ => ⟨x3, x4, e0, e1, e2, e3, e4, e5⟩) ?_
     clear hK K HS HWd
     try simp only [Act.put, List.setIfInBounds_toArray, List.set]
     refine anyR_done (by kernel_rfl) ?_ _
     clear e0 e1 e2 e3 e4 e5
     go_wp2_with (go_at_call 12; (with_reducible refine Calls.mono (PutsE.closeB HE.out (by have := HN.out; omega)) ?_); rintro e w9 ⟨rfl, hE⟩; clear x1 x2 x3 x4 hbw; replace HE := Lib.hid hE; clear hE; obtain ⟨x1, x2, x3, x4, hbw⟩ := HE.out.cells)
     go_roundw
     case rel => exact ⟨i + 1, by omega, by go_num, Lib.hid ⟨_, _, _, _, _, by have := HN.out; omega, HE.out⟩⟩
     case measure => simp [intOf] <;> omega
    ·skip
     have ka : ¬ (i : Int) < (l.length : Int) := by omega
     have kb : (i : Int) < (m.length : Int) := by omega
     obtain ⟨ad2, hBd, hcells⟩ := tok_cells HBB.out i hb
     obtain ⟨u, hu⟩ : ∃ u, PParsePuts.rd_T35 m i = u := ⟨_, rfl⟩
     rw [hu] at hcells
     subst hBd
     have HT2 := Lib.hid hcells
     obtain ⟨e0, e1, e2, e3, e4, e5⟩ := hcells wr hbw
     clear hcells hu
     have kt : ((i : Int) == turn) = false := by rw [beq_eq_false_iff_ne]; exact hc
     go_upto_region 16 with (fail)
     obtain ⟨Wd, hWd⟩ : ∃ V, wr.drew = V := ⟨_, rfl⟩
     have hbd : Below wr.heap.size wr Wd := by rw [← hWd]; exact (Below.refl _ wr).drew
     have hS : Wd.cell? ⟨bb, 0, none⟩ = some (.pointer (some ⟨p2, 0, none⟩)) ∧ Wd.cell? ⟨bb, 1, none⟩ = some (.pointer (some ⟨q2, 0, none⟩)) ∧ Wd.cell? (ad2.add (i * 6)) = some (.int .u8 u.f0) ∧ Wd.cell? ⟨(ad2.add (i * 6)).block, (ad2.add (i * 6)).off + 1, none⟩ = some (.string u.f1) ∧ Wd.cell? ⟨(ad2.add (i * 6)).block, (ad2.add (i * 6)).off + 2, none⟩ = some (.int .i64 u.f2.f0) ∧ Wd.cell? ⟨(ad2.add (i * 6)).block, (ad2.add (i * 6)).off + 3, none⟩ = some (.int .i64 u.f2.f1) ∧ Wd.cell? ⟨(ad2.add (i * 6)).block, (ad2.add (i * 6)).off + 4, none⟩ = some (.int .i64 u.f2.f2) ∧ Wd.cell? ⟨(ad2.add (i * 6)).block, (ad2.add (i * 6)).off + 5, none⟩ = some (.int .i64 u.f3) := ⟨pw_cell_below hbd x3, pw_cell_below hbd x4, pw_cell_below hbd e0, pw_cell_below hbd e1, pw_cell_below hbd e2, pw_cell_below hbd e3, pw_cell_below hbd e4, pw_cell_below hbd e5⟩
     have HS := Lib.hid hS
     replace HE := Lib.hid (HE.out.below hbd)
     have HWd := Lib.hid hWd
     clear hS hbd hWd
     refine wp_region_R (fun w' => w'.cell? ⟨bb, 0, none⟩ = some (.pointer (some ⟨p2, 0, none⟩)) ∧ w'.cell? ⟨bb, 1, none⟩ = some (.pointer (some ⟨q2, 0, none⟩)) ∧ w'.cell? (ad2.add (i * 6)) = some (.int .u8 u.f0) ∧ w'.cell? ⟨(ad2.add (i * 6)).block, (ad2.add (i * 6)).off + 1, none⟩ = some (.string u.f1) ∧ w'.cell? ⟨(ad2.add (i * 6)).block, (ad2.add (i * 6)).off + 2, none⟩ = some (.int .i64 u.f2.f0) ∧ w'.cell? ⟨(ad2.add (i * 6)).block, (ad2.add (i * 6)).off + 3, none⟩ = some (.int .i64 u.f2.f1) ∧ w'.cell? ⟨(ad2.add (i * 6)).block, (ad2.add (i * 6)).off + 4, none⟩ = some (.int .i64 u.f2.f2) ∧ w'.cell? ⟨(ad2.add (i * 6)).block, (ad2.add (i * 6)).off + 5, none⟩ = some (.int .i64 u.f3)) (fun _ => true) (by kernel_rfl) ?_
     rw [HWd.out]
     refine anyR_take (i := 0) (oi := ⟨some 72, .load 29 (.tmp 9), 29, "law.go:120", #[], none⟩) (v := ?_) rfl (by kernel_rfl) (fun _ _ _ h => h) (Or.inl ⟨by rfl, ?_⟩) HS.out ?_
     rotate_left
     ·intro x h; (try dsimp only at h); go_simp; try (with_reducible rfl)
     try simp only [Act.put, List.setIfInBounds_toArray, List.set]
     refine anyR_take (i := 1) (oi := ⟨some 73, .move (.tmp 1), 22, "law.go:120", #[], none⟩) (v := ?_) rfl (by kernel_rfl) (fun _ _ _ h => h) (Or.inl ⟨by rfl, ?_⟩) HS.out ?_
     rotate_left
     ·intro x h; (try dsimp only at h); go_simp; try (with_reducible rfl)
     try simp only [Act.put, List.setIfInBounds_toArray, List.set]
     refine anyR_take (i := 2) (oi := ⟨some 74, .move (.tmp 10), 3, "law.go:120", #[], none⟩) (v := ?_) rfl (by kernel_rfl) (fun _ _ _ h => h) (Or.inl ⟨by rfl, ?_⟩) HS.out ?_
     rotate_left
     ·intro x h; (try dsimp only at h); go_simp; try (with_reducible rfl)
     try simp only [Act.put, List.setIfInBounds_toArray, List.set]
     refine anyR_take (i := 3) (oi := ⟨some 75, .indexAddr 22 (.tmp 73) (.tmp 74), 0, "law.go:120", #[⟨1, .data⟩, ⟨2, .data⟩], none⟩) (v := ?_) rfl (by kernel_rfl) (fun _ _ _ h => h) (Or.inl ⟨by rfl, ?_⟩) HS.out ?_
     rotate_left
     ·intro x h; (try dsimp only at h); go_simp; try (with_reducible rfl)
     try simp only [Act.put, List.setIfInBounds_toArray, List.set]
     refine anyR_take (i := 4) (oi := ⟨some 76, .load 35 (.tmp 75), 35, "law.go:120", #[⟨3, .data⟩], none⟩) (v := ?_) rfl (by kernel_rfl) (fun _ _ _ h => h) (Or.inl ⟨by rfl, ?_⟩) HS.out ?_
     rotate_left
     ·intro x h; (try dsimp only at h); go_simp; try (with_reducible rfl)
     try simp only [Act.put, List.setIfInBounds_toArray, List.set]
     refine anyR_ready (rs := [5]) (by kernel_rfl) (by simp) ?_
     refine ReadyR.cons (o := ⟨some 77, .call { callee := .value (.func 11), args := #[.tmp 72, .tmp 76], argTypes := #[29, 35] }, 4, "law.go:120", #[⟨0, .data⟩, ⟨4, .data⟩], none⟩) rfl (fun K hK => ?_) ReadyR.nil
     go_simp
     go_at_call 11
     refine Calls.mono (PutsE.putB HE.out (by have := HN.out; omega) u) ?_
     rintro e w9 ⟨rfl, hE⟩
     clear x1 x2 x3 x4 hbw e0 e1 e2 e3 e4 e5
     replace HE := Lib.hid hE
     clear hE
     obtain ⟨x1, x2, x3, x4, hbw⟩ := HE.out.cells
     obtain ⟨e0, e1, e2, e3, e4, e5⟩ := HT2.out w9 hbw
     refine hK.out _ _ (fun _ => ⟨x3, x4, e0, e1, e2, e3, e4, e5⟩) ?_
     clear hK K
     try simp only [Act.put, List.setIfInBounds_toArray, List.set]
     refine anyR_ready (rs := [6]) (by kernel_rfl) (by simp) ?_
     refine ReadyR.cons (o := ⟨some 12, .assign (.tmp 77), 4, "law.go:120", #[⟨5, .data⟩, ⟨5, .chain⟩, ⟨0, .phase⟩, ⟨1, .phase⟩, ⟨2, .phase⟩, ⟨3, .phase⟩, ⟨4, .phase⟩, ⟨5, .phase⟩], none⟩) rfl (fun K hK => ?_) ReadyR.nil
     go_simp
     refine hK.out _ _ (fun _ => ⟨x3, x4, e0, e1, e2, e3, e4, e5⟩) ?_
     clear hK K HS HWd
     try simp only [Act.put, List.setIfInBounds_toArray, List.set]
     refine anyR_done (by kernel_rfl) ?_ _
     clear e0 e1 e2 e3 e4 e5
     go_wp2
     go_roundw
     case rel => exact ⟨i + 1, by omega, by go_num, Lib.hid ⟨_, _, _, _, _, by have := HN.out; omega, HE.out⟩⟩
     case measure => simp [intOf] <;> omega
   ·skip
    have ka : ¬ (i : Int) < (l.length : Int) := by omega
    have kb : ¬ (i : Int) < (m.length : Int) := by omega
    clear hbw
    go_upto_region 25 with (first
     | (go_at_call 12; (with_reducible refine Calls.mono (PutsE.closeA HE.out (by have := HN.out; omega)) ?_); rintro e w9 ⟨rfl, hE⟩; clear x1 x2 x3 x4; replace HE := Lib.hid hE; clear hE; obtain ⟨x1, x2, x3, x4, -⟩ := HE.out.cells)
     | (go_at_call 12; (with_reducible refine Calls.mono (PutsE.closeB HE.out (by have := HN.out; omega)) ?_); rintro e w9 ⟨rfl, hE⟩; clear x1 x2 x3 x4; replace HE := Lib.hid hE; clear hE; obtain ⟨x1, x2, x3, x4, -⟩ := HE.out.cells))
    obtain ⟨Wd, hWd⟩ : ∃ V, w9.drew = V := ⟨_, rfl⟩
    have hbd : Below w9.heap.size w9 Wd := by rw [← hWd]; exact (Below.refl _ w9).drew
    replace HE := Lib.hid (HE.out.below hbd)
    clear x1 x2 x3 x4
    obtain ⟨x1, x2, x3, x4, -⟩ := HE.out.cells
    have HS := Lib.hid (And.intro x1 x2)
    have HWd := Lib.hid hWd
    clear hbd hWd
    refine wp_region_R (fun w' => w'.cell? ⟨ba, 0, none⟩ = some (.pointer (some ⟨p1, 0, none⟩)) ∧ w'.cell? ⟨ba, 1, none⟩ = some (.pointer (some ⟨q1, 0, none⟩))) (fun _ => true) (by kernel_rfl) ?_
    rw [HWd.out]
    refine anyR_take (i := 0) (oi := ⟨some 91, .load 29 (.tmp 8), 29, "law.go:134", #[], none⟩) (v := ?_) rfl (by kernel_rfl) (fun _ _ _ h => h) (Or.inl ⟨by rfl, ?_⟩) HS.out ?_
    rotate_left
    ·intro x h; (try dsimp only at h); go_simp; try (with_reducible rfl)
    try simp only [Act.put, List.setIfInBounds_toArray, List.set]
    refine anyR_ready (rs := [1]) (by kernel_rfl) (by simp) ?_
    refine ReadyR.cons (o := ⟨some 92, .call { callee := .value (.func 13), args := #[.const (.string { data := #[59] })], argTypes := #[9] }, 35, "law.go:134", #[], none⟩) rfl (fun K hK => ?_) ReadyR.nil
    go_simp
    go_at_call 13
    refine Calls.mono (sign_any _ _) ?_
    rintro e w10 ⟨rfl, hb⟩
    replace HE := Lib.hid (HE.out.below hb)
    clear x1 x2 x3 x4 hb
    obtain ⟨x1, x2, x3, x4, -⟩ := HE.out.cells
    refine hK.out _ _ (fun _ => ⟨x1, x2⟩) ?_
    clear hK K
    try simp only [Act.put, List.setIfInBounds_toArray, List.set]
    refine anyR_ready (rs := [2]) (by kernel_rfl) (by simp) ?_
    refine ReadyR.cons (o := ⟨some 93, .call { callee := .value (.func 11), args := #[.tmp 91, .tmp 92], argTypes := #[29, 35] }, 4, "law.go:134", #[⟨0, .data⟩, ⟨1, .data⟩, ⟨1, .chain⟩], none⟩) rfl (fun K hK => ?_) ReadyR.nil
    go_simp
    go_at_call 11
    refine Calls.mono (PutsE.putA HE.out (by have := HN.out; omega) ⟨6, ⟨#[59]⟩, ⟨0, 0, 0⟩, 0⟩) ?_
    rintro e w11 ⟨rfl, hE⟩
    clear x1 x2 x3 x4
    replace HE := Lib.hid hE
    clear hE
    obtain ⟨x1, x2, x3, x4, -⟩ := HE.out.cells
    refine hK.out _ _ (fun _ => ⟨x1, x2⟩) ?_
    clear hK K
    try simp only [Act.put, List.setIfInBounds_toArray, List.set]
    refine anyR_ready (rs := [3]) (by kernel_rfl) (by simp) ?_
    refine ReadyR.cons (o := ⟨some 16, .assign (.tmp 93), 4, "law.go:134", #[⟨2, .data⟩, ⟨2, .chain⟩, ⟨0, .phase⟩, ⟨1, .phase⟩, ⟨2, .phase⟩], none⟩) rfl (fun K hK => ?_) ReadyR.nil
    go_simp
    refine hK.out _ _ (fun _ => ⟨x1, x2⟩) ?_
    clear hK K HS HWd
    try simp only [Act.put, List.setIfInBounds_toArray, List.set]
    refine anyR_done (by kernel_rfl) ?_ _
    go_wp2_with (first
     | (go_at_call 12; (with_reducible refine Calls.mono (PutsE.closeA HE.out (by have := HN.out; omega)) ?_); rintro e w9 ⟨rfl, hE⟩; clear x1 x2 x3 x4; replace HE := Lib.hid hE; clear hE; obtain ⟨x1, x2, x3, x4, -⟩ := HE.out.cells))
    go_ret
    exact ⟨rfl, HE.out.cells.2.2.2.2⟩
end Go.Proofs.Ytmjbpgnjgblnmaa
namespace Go.Proofs.Ytmjbpgnjgblnmaa
open Go.RowKit Go.ChangeShapes Go.Deep Go.Proofs.YtmjbpgnjgblnmaaW.PrintWords Go.Proofs.YtmjbpgnjgblnmaaW.PrintLast Go.Proofs.YtmjbpgnjgblnmaaW.PrintMore
section
variable {H : Type} {enc : TypeId × Value → H} {W : World} {base : Nat} {spare : Nat → Bool} {held : Bool}
set_option maxRecDepth 100000 in
theorem place_open {fuel : Nat} {cs : List Value} {x : DataW H × List MemPlace} (h : DataW.trod enc Try.prog W base spare held fuel 33 cs = some x) : ∃ p : PParsePuts.S33, cs = [.int .i64 p.f0, .int .i64 p.f1, .int .i64 p.f2] := by
 obtain ⟨xs, n, _, _, hl, hx, hf⟩ := DataW.trod_struct Try.underlying33 h
 have hc : Try.prog.cellsOf 33 = 3 := by kernel_rfl
 have hci : Try.prog.cellsOf 3 = 1 := by kernel_rfl
 rw [hc] at hl
 have g0 := hf 0 ⟨"At", 3, 0, false, "", "", 0⟩ rfl
 have g1 := hf 1 ⟨"Line", 3, 1, false, "", "", 8⟩ rfl
 have g2 := hf 2 ⟨"Column", 3, 2, false, "", "", 16⟩ rfl
 match cs, hl, xs, hx with
 | [c0, c1, c2], _, [x0, x1, x2], _ =>
  dsimp only at g0 g1 g2
  rw [hci] at g0 g1 g2
  obtain ⟨z0, e0, _⟩ := DataW.trod_int Try.underlying3 g0
  obtain ⟨z1, e1, _⟩ := DataW.trod_int Try.underlying3 g1
  obtain ⟨z2, e2, _⟩ := DataW.trod_int Try.underlying3 g2
  simp at e0 e1 e2
  subst e0 e1 e2
  exact ⟨⟨z0, z1, z2⟩, rfl⟩
set_option maxRecDepth 100000 in
theorem tok_open {fuel : Nat} {cs : List Value} {x : DataW H × List MemPlace} (h : DataW.trod enc Try.prog W base spare held fuel 35 cs = some x) : ∃ t : Tk, cs = tkCells t := by
 obtain ⟨xs, n, _, _, hl, hx, hf⟩ := DataW.trod_struct Try.underlying35 h
 have hc : Try.prog.cellsOf 35 = 6 := by kernel_rfl
 have hcp : Try.prog.cellsOf 33 = 3 := by kernel_rfl
 have hci : Try.prog.cellsOf 3 = 1 := by kernel_rfl
 have hck : Try.prog.cellsOf 31 = 1 := by kernel_rfl
 have hcs : Try.prog.cellsOf 9 = 1 := by kernel_rfl
 rw [hc] at hl
 have g0 := hf 0 ⟨"Kind", 31, 0, false, "", "", 0⟩ rfl
 have g1 := hf 1 ⟨"Text", 9, 1, false, "", "", 8⟩ rfl
 have g2 := hf 2 ⟨"Place", 33, 2, false, "", "", 24⟩ rfl
 have g3 := hf 3 ⟨"Feeds", 3, 5, false, "", "", 48⟩ rfl
 match cs, hl, xs, hx with
 | [c0, c1, c2, c3, c4, c5], _, [x0, x1, x2, x3], _ =>
  dsimp only at g0 g1 g2 g3
  rw [hck] at g0
  rw [hcs] at g1
  rw [hcp] at g2
  rw [hci] at g3
  obtain ⟨z0, e0, _⟩ := DataW.trod_int Try.underlying31 g0
  obtain ⟨z1, e1, _⟩ := DataW.trod_string Try.underlying9 g1
  obtain ⟨p, e2⟩ := place_open g2
  obtain ⟨z3, e3, _⟩ := DataW.trod_int Try.underlying3 g3
  simp at e0 e1 e2 e3
  obtain ⟨e4, e5, e6⟩ := e2
  subst e0 e1 e3 e4 e5 e6
  exact ⟨⟨z0, z1, p, z3⟩, rfl⟩
theorem addr_add2 (a : Addr) (i j : Nat) : (a.add i).add j = a.add (i + j) := by
 unfold Addr.add
 by_cases hi : i = 0
 ·subst hi; simp
 ·by_cases hj : j = 0
  ·subst hj; simp
  ·simp [hi, hj, Nat.add_assoc]
theorem row_open {α : Type} {k : Kd α} (d0 : α) {e T : TypeId} (ht : Try.prog.underlying T = some (.slice e)) (hsz : Try.prog.cellsOf e = k.sz) {n fuel : Nat} (hn : fuel ≤ n + 1) (ih : ∀ m, m ≤ n → ∀ cs x, DataW.trod enc Try.prog W base spare held m e cs = some x → ∃ y : α, k.K W y cs)
  {cs : List Value} {x : DataW H × List MemPlace} (h : DataW.trod enc Try.prog W base spare held fuel T cs = some x) : ∃ (A : Option Addr) (l : List α) (c : Nat), cs = [.slice A l.length c] ∧ l.length ≤ c ∧ Kd.C k W A l.length l := by
 rcases DataW.trod_slice ht h with ⟨rfl, _⟩ | ⟨a, len, cap, elems, rest, m, hm, rfl, _, _, hl, hc, hlen, hel, _, _⟩
 ·exact ⟨none, [], 0, rfl, Nat.le_refl _, ⟨rfl, by simp, fun h => absurd h (by simp)⟩⟩
 ·have hy : ∀ i, ∃ y : α, i < len → ∃ c : List Value, c.length = k.sz ∧ k.K W y c ∧ ∀ j u, c[j]? = some u → W.cell? (a.add (i * k.sz + j)) = some u := by
   intro i
   by_cases hi : i < len
   ·have h1 := hel i hi
    rw [List.getElem?_eq_getElem (by omega)] at h1
    obtain ⟨cs', hcs, htr⟩ := Option.bind_eq_some_iff.1 h1
    obtain ⟨y, hy⟩ := ih m (by omega) cs' _ htr
    obtain ⟨_, hcl, hcell⟩ := World.cells?_some hcs
    refine ⟨y, fun _ => ⟨cs', by rw [hcl, hsz], hy, fun j u hu => ?_⟩⟩
    have hj : j < Try.prog.cellsOf e := by rw [← hcl]; exact (List.getElem?_eq_some_iff.1 hu).1
    have := hcell j hj
    rw [hu] at this
    rw [← this, hsz, addr_add2]
   ·exact ⟨d0, fun h => absurd h hi⟩
  obtain ⟨f, hf⟩ := (⟨fun i => (hy i).choose, fun i => (hy i).choose_spec⟩ : ∃ f : Nat → α, ∀ i, i < len → ∃ c : List Value, c.length = k.sz ∧ k.K W (f i) c ∧ ∀ j u, c[j]? = some u → W.cell? (a.add (i * k.sz + j)) = some u)
  refine ⟨some a, (List.range len).map f, cap, by simp, by simpa using hl, ⟨rfl, ?_, fun _ => ⟨a, rfl, fun j p hp => ?_⟩⟩⟩
  ·have : maxLen ≤ 9223372036854775807 := by decide
   simp
   omega
  ·rw [List.getElem?_map] at hp
   obtain ⟨i, hi, rfl⟩ := Option.map_eq_some_iff.1 hp
   obtain ⟨hlt, he⟩ := List.getElem?_eq_some_iff.1 hi
   rw [List.getElem_range] at he
   subst he
   exact hf j (by simpa using hlt)
theorem toks_arg {A : Option Addr} {n c : Nat} {d : DataW H} {ps : List MemPlace} (h : DataW.Trod enc Try.prog W base spare held 22 (.slice A n c) d ps) : ∃ l : List Tk, l.length = n ∧ n ≤ c ∧ Kd.C kTk W A n l := by
 obtain ⟨fuel, hf⟩ := h
 obtain ⟨A', l, c', e, hlc, hC⟩ := row_open (k := kTk) noTk Try.underlying22 (by kernel_rfl) (n := fuel) (by omega) (fun m _ cs x h => by
  obtain ⟨t, rfl⟩ := tok_open h
  exact ⟨t, PParsePuts.k35_mk W t⟩) hf
 simp [Value.cells] at e
 obtain ⟨rfl, rfl, rfl⟩ := e
 exact ⟨l, rfl, hlc, hC⟩
theorem laidOut0 : laidOutB Try.prog = true := by kernel_rfl
end
end Go.Proofs.Ytmjbpgnjgblnmaa
namespace Go.Proofs.Ytmjbpgnjgblnmaa.parsePuts
open Go.ChangeShapes Go.WideShapes Go.ChangeAt Go.RowKit
theorem own : ownKnob Try.prog.godebug = none := by kernel_rfl
theorem bulk_pos {H : Type} (d : DataW H) : 1 ≤ Rows.uptoBulk d := by
 cases d with
 | lit l => cases l <;> simp [Rows.uptoBulk]
 | _ => simp [Rows.uptoBulk]
theorem bulk_len {H : Type} (l : List (DataW H)) : l.length ≤ Rows.uptoBulkAll l := by
 induction l with
 | nil => simp
 | cons d r ih =>
  have := bulk_pos d
  simp only [Rows.uptoBulkAll, List.length_cons]
  omega
theorem row_bulk {H : Type} {enc : TypeId × Value → H} {W : World} {base : Nat} {spare : Nat → Bool} {held : Bool} {A : Option Addr} {n c : Nat} {d : DataW H} {ps : List MemPlace} (h : DataW.Trod enc Try.prog W base spare held 22 (.slice A n c) d ps) : n ≤ Rows.uptoBulk d := by
 obtain ⟨fuel, hf⟩ := h
 rcases DataW.trod_slice Try.underlying22 hf with ⟨e, _⟩ | ⟨a, len, cap, elems, rest, m, hm, e, hx, _, hl, hc, hlen, _⟩
 ·simp [Value.cells] at e
  omega
 ·simp [Value.cells] at e
  obtain ⟨e1, rfl, e2⟩ := e
  have hd : d = .slice (elems.map (·.1)) (rest.map (·.1)) := (Prod.mk.inj hx).1
  have := bulk_len (elems.map (·.1))
  rw [hd]
  simp only [Rows.uptoBulk, List.length_map] at this ⊢
  omega
set_option maxRecDepth 100000 in
theorem contract (H : Type) (enc : TypeId × Value → H) (W : World) (base : Nat) (args : Array Value) (ds gs : List (DataW H)) (before : List MemPlace)
  (hval : ∀ (j : Nat) t v, Try.f3.params[j]? = some t → args[j]? = some v → Value.okWide Try.prog W .any base t v)
  (hW : DataW.Whole enc Try.prog Try.f3.params.toList Rows.parsePutsSpec.vars false W args.toList ds gs before) (hk : Rows.uptoSmall H (ds ++ gs) = true) :
  Calls Try.prog 3 args W fun e W' => ∃ v, e = .returned v ∧ Rows.parsePutsSpec.post enc Try.prog Try.f3 false true false false W args v W' := by
 have hW' := hW
 obtain ⟨p, q, hA0, hV, rfl, hfz, hnd⟩ := hW
 have hA : DataW.TrodAll enc Try.prog W 0 (fun _ => true) true Try.f3.params.toList args.toList ds p := hA0
 rw [Try.params3] at hA hval
 obtain ⟨v0, vs0, d0, ds0, p0, q0, hargs, rfl, rfl, h0, r0⟩ := trodAll_cons hA
 obtain ⟨v1, vs1, d1, ds1, p1, q1, rfl, rfl, rfl, h1, r1⟩ := trodAll_cons r0
 obtain ⟨v2, vs2, d2, ds2, p2, q2, rfl, rfl, rfl, h2, r2⟩ := trodAll_cons r1
 obtain ⟨rfl, rfl, rfl⟩ := trodAll_nil r2
 obtain rfl : args = #[v0, v1, v2] := by cases args; simp_all
 obtain ⟨rfl, rfl⟩ := trodVars_none hV
 clear hA0
 obtain ⟨a0, len0, cap0, rfl⟩ := okWide_slice Try.underlying22 (hval 0 22 v0 rfl rfl)
 have h0k := h0
 have hlt0 : ∀ x ∈ p0, x.block < W.heap.size := fun x hx => hW'.lt x (by simp [hx])
 have hb0 := row_bulk h0
 obtain ⟨l, hl, hc, hC⟩ := toks_arg h0
 subst hl
 obtain ⟨a1, len1, cap1, rfl⟩ := okWide_slice Try.underlying22 (hval 1 22 v1 rfl rfl)
 have h1k := h1
 have hlt1 : ∀ x ∈ p1, x.block < W.heap.size := fun x hx => hW'.lt x (by simp [hx])
 have hb1 := row_bulk h1
 obtain ⟨m, hm, hcm, hCm⟩ := toks_arg h1
 subst hm
 obtain ⟨x2, rfl, rfl, rfl, wx2⟩ := open_int Try.underlying3 (hval 2 3 v2 rfl rfl) h2
 have hbulk := of_decide_eq_true hk
 simp only [List.append_nil, Rows.uptoBulkAll] at hbulk
 simp only [List.append_nil] at hW'
 have hcalls : Calls Try.prog 3 #[.slice a0 l.length cap0, .slice a1 m.length cap1, .int .i64 x2] W fun e w' => e = .returned (.bool true) ∧ Below W.heap.size W w' := by
  rcases Nat.lt_or_ge 3000 (l.length + m.length) with h | h
  ·exact puts_big a0 a1 l.length m.length cap0 cap1 x2 W h (by omega) (by omega)
  ·exact puts_any a0 a1 cap0 cap1 l m x2 W hC hCm h
 refine hcalls.mono fun e W' ⟨he, hb⟩ => ?_
 subst he
 exact ⟨_, rfl, _, _, _, [], _, [], hW', trodAll_mk1 (shut_bool Try.underlying4 _), (trodAll_cons_mk (Below.trod laidOut0 (by kernel_rfl) (of_decide_eq_true (by kernel_rfl)) h0k hb hlt0) (trodAll_cons_mk (Below.trod laidOut0 (by kernel_rfl) (of_decide_eq_true (by kernel_rfl)) h1k hb hlt1) (trodAll_cons_mk (shut_int Try.underlying3 wx2) trodAll_mk0))), rfl, hb.frame _, fun h => by cases h⟩
set_option maxRecDepth 100000 in
theorem lifted (os : Os) (started : os.Started) (H : Type) (enc : TypeId × Value → H) (F : Stop.Interp) :
  ReturnsInHanded {} Try.checked os 3 .any ((Rows.OpenSpec.upto Rows.parsePutsSpec).pre6 enc Try.prog Try.f3 Rows.parsePutsUptoRow.domain false) (((Rows.OpenSpec.upto Rows.parsePutsSpec).at F).post enc Try.prog Try.f3 false true false false) := by
 refine returnsInHanded_of_cond (C := Try.checked) (s := Rows.OpenSpec.upto Rows.parsePutsSpec) (k := Rows.uptoSmall) rfl own started (by kernel_rfl) Try.func3
  (OpenSpec.witness (enc := enc) (C := Try.checked) (s := Rows.OpenSpec.upto Rows.parsePutsSpec) (k := Rows.uptoSmall) rfl false ⟨#[], #[.slice none 0 0, .slice none 0 0, .int .i64 0], []⟩ 8 (by kernel_rfl) (by kernel_rfl) (by kernel_rfl)
   (x := ([.nil, .nil, .lit (.int .i64 0)], [], [])) (by kernel_rfl) rfl (by kernel_rfl)) ?_
 intro W base args ds gs before hval hW _ hk _
 exact contract H enc W base args ds gs before hval hW hk
theorem over : Rows.parsePutsUptoRow.holds Try.pinned (Rows.OpenSpec.upto Rows.parsePutsSpec) :=
 OpenClaim.holds_of_cond 3 Try.f3 rfl rfl rfl rfl rfl rfl rfl ⟨rfl, rfl, rfl, rfl, rfl⟩ rfl rfl rfl rfl rfl (by kernel_rfl) Try.func3 (by kernel_rfl)
  (of_decide_eq_true (by kernel_rfl)) (by unfold Func.isWrapper; first | (rw [if_pos (by decide +kernel)]; kernel_rfl) | (rw [if_neg (by decide +kernel)]; exact ⟨rfl, rfl⟩))
  (fun os started H enc _ F => lifted os started H enc F)
end Go.Proofs.Ytmjbpgnjgblnmaa.parsePuts
namespace Go.Proofs.Ytmjbpgnjgblnmaa
theorem parsePuts_holds : Rows.ParsePutsUptoSaid := parsePuts.over
end Go.Proofs.Ytmjbpgnjgblnmaa
namespace Go.Proofs.Ytmjbpgnjgblnmaa
#print axioms parsePuts_holds
end Go.Proofs.Ytmjbpgnjgblnmaa
