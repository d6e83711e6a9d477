/- Events: the walk. -/
import Derived.Test.YtfefldkljbbbpaaG3
import Derived.Laws.EntriesVeiled
/- Events: the walk. (Printed by genev.py.) -/
set_option linter.unusedVariables false
set_option linter.unusedSimpArgs false
namespace Go.Proofs.Ytfefldkljbbbpaa
open Go.RowKit Go.Proofs.YtfefldkljbbbpaaW.PrintWords Go.Proofs.YtfefldkljbbbpaaW.PrintLast Go.Proofs.YtfefldkljbbbpaaW.PrintMore

def OutPost (w0 w : World) (xs : List Ev) (e : Ending) (w' : World) : Prop := (∃ v, e = .returned v) ∧ Out w0 w' xs ∧ Keeps w w'

set_option maxRecDepth 100000 in
set_option maxHeartbeats 4000000 in
theorem walk_tok_false (w0 w : World) (t : Tk) (v7 : Value) (xs : List Ev) (hb : isNote t = false) (h : Out w0 w xs) (hl : xs.length ≤ 1073741824) :
    Calls Try.prog 29 #[.agg #[.int .u8 0, .int .u8 t.f0, .string t.f1, .int .i64 t.f2.f0, .int .i64 t.f2.f1, .int .i64 t.f2.f2, .int .i64 t.f3, v7], .pointer (some ⟨w0.heap.size + 1, 0, none⟩), .pointer (some ⟨w0.heap.size + 2, 0, none⟩)] w fun e w' => OutPost w0 w (xs ++ [evTok t]) e w' := by
  obtain ⟨k0, tx, ⟨p0, p1, p2⟩, fd⟩ := t
  dsimp only
  have CC := Lib.hid (comment_any ⟨k0, tx, ⟨p0, p1, p2⟩, fd⟩)
  have HB := Lib.hid hb
  have H := Lib.hid h
  have HF1 : Hid ((xs.length + 1) * 64 ≤ 140737488355328) := Lib.hid (by omega)
  have hby : ∀ w1, Below (w.heap.size + 1) (w.alloc (.cells #[.int .u8 0, .int .u8 k0, .string tx, .int .i64 p0, .int .i64 p1, .int .i64 p2, .int .i64 fd, v7] TN)) w1 → _ := fun w1 h => box8 h
  obtain ⟨W1, hW1⟩ : ∃ W1, w.alloc (.cells #[.int .u8 0, .int .u8 k0, .string tx, .int .i64 p0, .int .i64 p1, .int .i64 p2, .int .i64 fd, v7] TN) = W1 := ⟨_, rfl⟩
  have hs1 : W1.heap.size = w.heap.size + 1 := by rw [← hW1, World.size_alloc]
  have hb1 : Below w.heap.size w W1 := by rw [← hW1]; exact (Below.refl w.heap.size w).alloc (Nat.le_refl _) _
  rw [hW1] at hby
  have HBY := Lib.hid hby
  have HW1 := Lib.hid hW1
  have HB1 := Lib.hid hb1
  have HS1 := Lib.hid hs1
  clear hb h hby hW1 hb1 hs1
  go_enter Try.func29, Try.ntmps29
  go_upto_region 2 with (fail)
  rw [HW1.out]
  obtain ⟨y0, y1, y2, y3, y4, y5, y6, y7⟩ := HBY.out W1 (Below.refl _ _)
  go_wp2_with (first
    | (go_at_call 25; (with_reducible refine (CC.out _).mono ?_); rintro e w2 ⟨rfl, hb⟩; have HK2 := Lib.hid (H.out.keep (HB1.out.trans (hb.mono HB1.out.size))); have HP2 := Lib.hid (Keeps.of_below (HB1.out.trans (hb.mono HB1.out.size))); (obtain ⟨z0, z1, z2, z3, z4, z5, z6, z7⟩ := HBY.out w2 (hb.mono (Nat.le_of_eq HS1.out.symm))); clear hb; rw [HB.out]; (obtain ⟨v1, hv1, hr1⟩ := (HK2.out).out); (obtain ⟨A1, c1, rfl⟩ := Kd.R_slice hr1); have cv1 := blk_cell hv1 0; have fv1 := blk_frozen hv1 0; simp only [List.getElem?_toArray, List.getElem?_cons_zero] at cv1; have HR1 := Lib.hid hr1; have HV1 := Lib.hid hv1; clear hr1 hv1)
    | ((with_reducible refine gate_dst (N := 11) rfl ?_); refine Kd.R_append kEv (w0 := w2) (w0.heap.size + 3) rfl (.tmp 6) (.tmp 10) 22 32 _ 64 rfl Try.underlying22 infoEv rfl (by decide) (by decide) (.slice A1 (xs).length c1) (xs) (⟨2, 0, ⟨k0, tx, ⟨p0, p1, p2⟩, fd⟩⟩) (evCells (⟨2, 0, ⟨k0, tx, ⟨p0, p1, p2⟩, fd⟩⟩)) (fun _ => True) (fun _ => False) rfl rfl (ev_M _ _ _) (fun _ h => h.elim) (fun _ _ => trivial) HR1.out (Below.refl _ _) (HK2.out).size HF1.out ?_; intro v3 w3 ho _ hg _; (obtain ⟨A3, c3, rfl⟩ := Kd.R_slice ho); have HG3 := Lib.hid hg; have HO3 := Lib.hid ho; have hm3 := Lib.hid ((hg.block (w0.heap.size + 1) (by have := (HK2.out).size; omega) (fun he => by have := Kd.R_base HR1.out _ he.symm; omega)).trans HV1.out); have cm3 := blk_cell hm3.out 0; have fm3 := blk_frozen hm3.out 0; simp only [List.getElem?_toArray, List.getElem?_cons_zero] at cm3; clear ho hg)
    | ((with_reducible refine gate_ (.store 22 (.tmp 1) (.tmp 11)) rfl ?_); refine wl_box rfl rfl _ _ _ rfl _ [.slice A3 ((xs) ++ [(⟨2, 0, ⟨k0, tx, ⟨p0, p1, p2⟩, fd⟩⟩ : Ev)]).length c3] rfl rfl rfl infoEvS (fun u hu => by rw [List.mem_singleton.1 hu]; rfl) hm3.out rfl ?_; intro w5 h5 hu; have HKw5 := Lib.hid (Out.told HK2.out HR1.out HO3.out HG3.out h5 hu); have HPw5 := Lib.hid (Keeps.told HK2.out HR1.out HG3.out hu); clear h5 hu))
  refine bodyPost_end (results_none rfl _ _ _) rfl ?_
  refine ⟨⟨_, rfl⟩, ?_, HP2.out.trans HPw5.out⟩
  have ht := HKw5.out
  have he : evTok ⟨k0, tx, ⟨p0, p1, p2⟩, fd⟩ = ⟨2, 0, ⟨k0, tx, ⟨p0, p1, p2⟩, fd⟩⟩ := by unfold evTok; rw [HB.out]; rfl
  rw [he]
  exact ht

set_option maxRecDepth 100000 in
set_option maxHeartbeats 4000000 in
theorem walk_tok_true (w0 w : World) (t : Tk) (v7 : Value) (xs : List Ev) (hb : isNote t = true) (h : Out w0 w xs) (hl : xs.length ≤ 1073741824) :
    Calls Try.prog 29 #[.agg #[.int .u8 0, .int .u8 t.f0, .string t.f1, .int .i64 t.f2.f0, .int .i64 t.f2.f1, .int .i64 t.f2.f2, .int .i64 t.f3, v7], .pointer (some ⟨w0.heap.size + 1, 0, none⟩), .pointer (some ⟨w0.heap.size + 2, 0, none⟩)] w fun e w' => OutPost w0 w (xs ++ [evTok t]) e w' := by
  obtain ⟨k0, tx, ⟨p0, p1, p2⟩, fd⟩ := t
  dsimp only
  have CC := Lib.hid (comment_any ⟨k0, tx, ⟨p0, p1, p2⟩, fd⟩)
  have HB := Lib.hid hb
  have H := Lib.hid h
  have HF1 : Hid ((xs.length + 1) * 64 ≤ 140737488355328) := Lib.hid (by omega)
  have hby : ∀ w1, Below (w.heap.size + 1) (w.alloc (.cells #[.int .u8 0, .int .u8 k0, .string tx, .int .i64 p0, .int .i64 p1, .int .i64 p2, .int .i64 fd, v7] TN)) w1 → _ := fun w1 h => box8 h
  obtain ⟨W1, hW1⟩ : ∃ W1, w.alloc (.cells #[.int .u8 0, .int .u8 k0, .string tx, .int .i64 p0, .int .i64 p1, .int .i64 p2, .int .i64 fd, v7] TN) = W1 := ⟨_, rfl⟩
  have hs1 : W1.heap.size = w.heap.size + 1 := by rw [← hW1, World.size_alloc]
  have hb1 : Below w.heap.size w W1 := by rw [← hW1]; exact (Below.refl w.heap.size w).alloc (Nat.le_refl _) _
  rw [hW1] at hby
  have HBY := Lib.hid hby
  have HW1 := Lib.hid hW1
  have HB1 := Lib.hid hb1
  have HS1 := Lib.hid hs1
  clear hb h hby hW1 hb1 hs1
  go_enter Try.func29, Try.ntmps29
  go_upto_region 2 with (fail)
  rw [HW1.out]
  obtain ⟨y0, y1, y2, y3, y4, y5, y6, y7⟩ := HBY.out W1 (Below.refl _ _)
  go_wp2_with (first
    | (go_at_call 25; (with_reducible refine (CC.out _).mono ?_); rintro e w2 ⟨rfl, hb⟩; have HK2 := Lib.hid (H.out.keep (HB1.out.trans (hb.mono HB1.out.size))); have HP2 := Lib.hid (Keeps.of_below (HB1.out.trans (hb.mono HB1.out.size))); (obtain ⟨z0, z1, z2, z3, z4, z5, z6, z7⟩ := HBY.out w2 (hb.mono (Nat.le_of_eq HS1.out.symm))); clear hb; rw [HB.out]; (obtain ⟨v1, hv1, hr1⟩ := (HK2.out).out); (obtain ⟨A1, c1, rfl⟩ := Kd.R_slice hr1); have cv1 := blk_cell hv1 0; have fv1 := blk_frozen hv1 0; simp only [List.getElem?_toArray, List.getElem?_cons_zero] at cv1; have HR1 := Lib.hid hr1; have HV1 := Lib.hid hv1; clear hr1 hv1)
    | ((with_reducible refine gate_dst (N := 48) rfl ?_); refine Kd.R_append kEv (w0 := w2) (w0.heap.size + 3) rfl (.tmp 43) (.tmp 47) 22 32 _ 64 rfl Try.underlying22 infoEv rfl (by decide) (by decide) (.slice A1 (xs).length c1) (xs) (⟨4, 0, ⟨k0, tx, ⟨p0, p1, p2⟩, fd⟩⟩) (evCells (⟨4, 0, ⟨k0, tx, ⟨p0, p1, p2⟩, fd⟩⟩)) (fun _ => True) (fun _ => False) rfl rfl (ev_M _ _ _) (fun _ h => h.elim) (fun _ _ => trivial) HR1.out (Below.refl _ _) (HK2.out).size HF1.out ?_; intro v3 w3 ho _ hg _; (obtain ⟨A3, c3, rfl⟩ := Kd.R_slice ho); have HG3 := Lib.hid hg; have HO3 := Lib.hid ho; have hm3 := Lib.hid ((hg.block (w0.heap.size + 1) (by have := (HK2.out).size; omega) (fun he => by have := Kd.R_base HR1.out _ he.symm; omega)).trans HV1.out); have cm3 := blk_cell hm3.out 0; have fm3 := blk_frozen hm3.out 0; simp only [List.getElem?_toArray, List.getElem?_cons_zero] at cm3; clear ho hg)
    | ((with_reducible refine gate_ (.store 22 (.tmp 1) (.tmp 48)) rfl ?_); refine wl_box rfl rfl _ _ _ rfl _ [.slice A3 ((xs) ++ [(⟨4, 0, ⟨k0, tx, ⟨p0, p1, p2⟩, fd⟩⟩ : Ev)]).length c3] rfl rfl rfl infoEvS (fun u hu => by rw [List.mem_singleton.1 hu]; rfl) hm3.out rfl ?_; intro w5 h5 hu; have HKw5 := Lib.hid (Out.told HK2.out HR1.out HO3.out HG3.out h5 hu); have HPw5 := Lib.hid (Keeps.told HK2.out HR1.out HG3.out hu); clear h5 hu))
  refine bodyPost_end (results_none rfl _ _ _) rfl ?_
  refine ⟨⟨_, rfl⟩, ?_, HP2.out.trans HPw5.out⟩
  have ht := HKw5.out
  have he : evTok ⟨k0, tx, ⟨p0, p1, p2⟩, fd⟩ = ⟨4, 0, ⟨k0, tx, ⟨p0, p1, p2⟩, fd⟩⟩ := by unfold evTok; rw [HB.out]; rfl
  rw [he]
  exact ht

theorem k_cells {w : World} {x : Nd} {cs : List Value} (h : kNd.K w x cs) : ∃ A c, cs = [.int .u8 x.f0, .int .u8 x.f1.f0, .string x.f1.f1, .int .i64 x.f1.f2.f0, .int .i64 x.f1.f2.f1, .int .i64 x.f1.f2.f2, .int .i64 x.f1.f3, .slice A x.f2.length c] ∧ x.f2.length ≤ c ∧ Kd.C kNd w A x.f2.length x.f2 := PTreeSame.k35_open h
/-- The i-th kid's cells. -/
theorem kid_at {w : World} {A : Option Addr} {n : Nat} {l : List Nd} (h : Kd.C kNd w A n l) (i : Nat) (x : Nd) (hi : i < n) (hx : l[i]? = some x) : ∃ ad A1 c1, A = some ad ∧ (w.cell? (ad.add (i * 8)) = some (.int .u8 x.f0) ∧ w.cell? ⟨(ad.add (i * 8)).block, (ad.add (i * 8)).off + 1, none⟩ = some (.int .u8 x.f1.f0) ∧ w.cell? ⟨(ad.add (i * 8)).block, (ad.add (i * 8)).off + 2, none⟩ = some (.string x.f1.f1) ∧ w.cell? ⟨(ad.add (i * 8)).block, (ad.add (i * 8)).off + 3, none⟩ = some (.int .i64 x.f1.f2.f0) ∧ w.cell? ⟨(ad.add (i * 8)).block, (ad.add (i * 8)).off + 4, none⟩ = some (.int .i64 x.f1.f2.f1) ∧ w.cell? ⟨(ad.add (i * 8)).block, (ad.add (i * 8)).off + 5, none⟩ = some (.int .i64 x.f1.f2.f2) ∧ w.cell? ⟨(ad.add (i * 8)).block, (ad.add (i * 8)).off + 6, none⟩ = some (.int .i64 x.f1.f3) ∧ w.cell? ⟨(ad.add (i * 8)).block, (ad.add (i * 8)).off + 7, none⟩ = some (.slice A1 x.f2.length c1)) ∧ x.f2.length ≤ c1 ∧ Kd.C kNd w A1 x.f2.length x.f2 := by
  obtain ⟨ad, A1, c1, h0, k0, k1, k2, k3, k4, k5, k6, k7, hl, hc⟩ := PTreeSame.at_T35 h (i : Int) (by omega) (by omega)
  have hr : PTreeSame.rd_T35 l (i : Int) = x := by simp [PTreeSame.rd_T35, List.getD, hx]
  rw [hr] at k0 k1 k2 k3 k4 k5 k6 k7 hl hc
  rw [Int.toNat_natCast] at k0 k1 k2 k3 k4 k5 k6 k7
  exact ⟨ad, A1, c1, h0, ⟨k0, k1, k2, k3, k4, k5, k6, k7⟩, hl, hc⟩

set_option maxRecDepth 100000 in
set_option maxHeartbeats 8000000 in
theorem walk_any (w0 : World) : ∀ (N : Nat) (x : Nd) (A : Option Addr) (n c : Nat), nds x ≤ N → x.f2.length = n → n ≤ c → Kd.C kNd w0 A n x.f2 → ∀ (w : World) (xs : List Ev), Out w0 w xs → xs.length + 2 * nds x ≤ 1073741824 →
    Calls Try.prog 29 #[.agg #[.int .u8 x.f0, .int .u8 x.f1.f0, .string x.f1.f1, .int .i64 x.f1.f2.f0, .int .i64 x.f1.f2.f1, .int .i64 x.f1.f2.f2, .int .i64 x.f1.f3, .slice A n c], .pointer (some ⟨w0.heap.size + 1, 0, none⟩), .pointer (some ⟨w0.heap.size + 2, 0, none⟩)] w fun e w' => OutPost w0 w (xs ++ tells x) e w' := by
  intro N
  induction N with
  | zero => intro x A n c hN; have := nds_pos x; omega
  | succ N ih =>
    intro x A n c hN hn hnc hC w xs h hl
    by_cases hk : x.f0 = 0
    · have hp := nds_pos x
      have ht : tells x = [evTok x.f1] := by rw [tells_eq, if_pos hk]
      rw [ht, hk]
      cases hb : isNote x.f1 with
      | false => exact walk_tok_false w0 w x.f1 _ xs hb h (by omega)
      | true => exact walk_tok_true w0 w x.f1 _ xs hb h (by omega)
    · have HC := Lib.hid hC
      have H := Lib.hid h
      have HT : Hid (tells x = evOpen x.f0 :: (tellsL x.f2 ++ [evClose x.f0])) := Lib.hid (by rw [tells_eq, if_neg hk])
      have hsz := nds_eq x
      have HSZ := Lib.hid hsz
      have HNN := Lib.hid hN
      have HLL := Lib.hid hl
      have hn24 : n ≤ 1073741824 := by have := ndsL_len x.f2; omega
      have dk : (x.f0 != 0) = true := bne_iff_ne.2 hk
      obtain ⟨k, t, kids⟩ := x
      obtain ⟨k0, tx, ⟨p0, p1, p2⟩, fd⟩ := t
      dsimp only at *
      have IH := Lib.hid ih
      have HN := Lib.hid hn
      have HF1 : Hid ((xs.length + 1) * 64 ≤ 140737488355328) := Lib.hid (by omega)
      have hby : ∀ w1, Below (w.heap.size + 1) (w.alloc (.cells #[.int .u8 k, .int .u8 k0, .string tx, .int .i64 p0, .int .i64 p1, .int .i64 p2, .int .i64 fd, .slice A n c] TN)) w1 → _ := fun w1 h => box8 h
      obtain ⟨W1, hW1⟩ : ∃ W1, w.alloc (.cells #[.int .u8 k, .int .u8 k0, .string tx, .int .i64 p0, .int .i64 p1, .int .i64 p2, .int .i64 fd, .slice A n c] TN) = W1 := ⟨_, rfl⟩
      have hs1 : W1.heap.size = w.heap.size + 1 := by rw [← hW1, World.size_alloc]
      have hb1 : Below w.heap.size w W1 := by rw [← hW1]; exact (Below.refl w.heap.size w).alloc (Nat.le_refl _) _
      rw [hW1] at hby
      have HBY := Lib.hid hby
      have HW1 := Lib.hid hW1
      have HB1 := Lib.hid hb1
      have hnb : W1.heap[w.heap.size]? = some (.cells #[.int .u8 k, .int .u8 k0, .string tx, .int .i64 p0, .int .i64 p1, .int .i64 p2, .int .i64 fd, .slice A n c] TN (0, 0)) := by rw [← hW1]; exact heap_alloc_new w _
      have HNB := Lib.hid hnb
      have HNE : Hid (w.heap.size ≠ w0.heap.size + 1) := Lib.hid (by have := h.size; omega)
      have HS1 := Lib.hid hs1
      have HK1 := Lib.hid (h.keep hb1)
      clear h hby hW1 hb1 hs1 hnb hC ih hn hsz hN hl hk
      go_enter Try.func29, Try.ntmps29
      go_upto_region 2 with (fail)
      rw [HW1.out]
      obtain ⟨y0, y1, y2, y3, y4, y5, y6, y7⟩ := HBY.out W1 (Below.refl _ _)
      (obtain ⟨v1, hv1, hr1⟩ := (HK1.out).out); (obtain ⟨A1, c1, rfl⟩ := Kd.R_slice hr1); have cv1 := blk_cell hv1 0; have fv1 := blk_frozen hv1 0; simp only [List.getElem?_toArray, List.getElem?_cons_zero] at cv1; have HR1 := Lib.hid hr1; have HV1 := Lib.hid hv1; clear hr1 hv1
      go_wp2_with (first
        | ((with_reducible refine gate_dst (N := 21) rfl ?_); refine Kd.R_append kEv (w0 := W1) (w0.heap.size + 3) rfl (.tmp 16) (.tmp 20) 22 32 _ 64 rfl Try.underlying22 infoEv rfl (by decide) (by decide) (.slice A1 (xs).length c1) (xs) (⟨1, k, noTk⟩) (evCells (⟨1, k, noTk⟩)) (fun _ => True) (fun _ => False) rfl rfl (ev_M _ _ _) (fun _ h => h.elim) (fun _ _ => trivial) HR1.out (Below.refl _ _) (HK1.out).size HF1.out ?_; intro v3 w3 ho _ hg _; (obtain ⟨A3, c3, rfl⟩ := Kd.R_slice ho); have HG3 := Lib.hid hg; have HO3 := Lib.hid ho; have hm3 := Lib.hid ((hg.block (w0.heap.size + 1) (by have := (HK1.out).size; omega) (fun he => by have := Kd.R_base HR1.out _ he.symm; omega)).trans HV1.out); have cm3 := blk_cell hm3.out 0; have fm3 := blk_frozen hm3.out 0; simp only [List.getElem?_toArray, List.getElem?_cons_zero] at cm3; clear ho hg)
        | ((with_reducible refine gate_ (.store 22 (.tmp 1) (.tmp 21)) rfl ?_); refine wl_box rfl rfl _ _ _ rfl _ [.slice A3 ((xs) ++ [(⟨1, k, noTk⟩ : Ev)]).length c3] rfl rfl rfl infoEvS (fun u hu => by rw [List.mem_singleton.1 hu]; rfl) hm3.out rfl ?_; intro w5 h5 hu; have HKw5 := Lib.hid (Out.told HK1.out HR1.out HO3.out HG3.out h5 hu); have HPw5 := Lib.hid (Keeps.told HK1.out HR1.out HG3.out hu); have HBw5 := Lib.hid (HPw5.out _ _ HNB.out); (obtain ⟨q0, q1, q2, q3, q4, q5, q6, q7⟩ := cells8 HBw5.out); clear h5 hu))
      have HB5 := HBw5
      have HP0 := Lib.hid ((Keeps.of_below HB1.out).trans HPw5.out)
      have HK5 : Hid (Out w0 w5 (xs ++ [⟨1, k, noTk⟩] ++ tellsL (kids.take 0))) := Lib.hid (by rw [List.take_zero, tellsL, List.append_nil]; exact HKw5.out)
      clear HBw5 HPw5 HKw5 q0 q1 q2 q3 q4 q5 q6 q7
      go_loopw [25] (fun kv wr => ∃ i : Nat, i ≤ n ∧ kv = .int .i64 i ∧ Hid (Out w0 wr (xs ++ [⟨1, k, noTk⟩] ++ tellsL (kids.take i)) ∧ Keeps w wr ∧ wr.heap[w.heap.size]? = some (.cells #[.int .u8 k, .int .u8 k0, .string tx, .int .i64 p0, .int .i64 p1, .int .i64 p2, .int .i64 fd, .slice A n c] TN (0, 0)))) (fun kv _ => n - (intOf kv).toNat)
      case atStart => exact ⟨0, by omega, rfl, Lib.hid ⟨HK5.out, HP0.out, HB5.out⟩⟩
      case round =>
        clear HK5 HP0 HB5
        obtain ⟨i, hi, rfl, HL⟩ := hrel
        by_cases hlt : i < n
        · have hi2 : i < kids.length := by rw [HN.out]; exact hlt
          obtain ⟨y, hy⟩ : ∃ y, kids[i]? = some y := ⟨kids[i], List.getElem?_eq_getElem hi2⟩
          obtain ⟨ad, A1, c1, rfl, hcs, hl1, hC1⟩ := kid_at HC.out i y hlt hy
          obtain ⟨k0', k1', k2', k3', k4', k5', k6', k7'⟩ := hcs
          have hbw := HL.out.1.below
          replace k0' := pw_cell_below hbw k0'
          replace k1' := pw_cell_below hbw k1'
          replace k2' := pw_cell_below hbw k2'
          replace k3' := pw_cell_below hbw k3'
          replace k4' := pw_cell_below hbw k4'
          replace k5' := pw_cell_below hbw k5'
          replace k6' := pw_cell_below hbw k6'
          replace k7' := pw_cell_below hbw k7'
          have cW := blk_cell HL.out.1.walk 0
          simp only [List.getElem?_toArray, List.getElem?_cons_zero] at cW
          have hny : nds y ≤ N := by have h1 := ndsL_mem (List.mem_of_getElem? hy); have h2 := HSZ.out; have h3 := HNN.out; omega
          have hty := take_tells hy
          have htl := tellsL_len (kids.take i)
          have hnt := take_nds (l := kids) i
          have hn1 : ndsL (kids.take i) + nds y ≤ ndsL kids := by
            have h1 := take_nds (l := kids) (i + 1)
            rw [List.take_add_one, hy, ndsL_append] at h1
            simp [ndsL_one] at h1
            exact h1
          have IHY : Hid (∀ w', Below wr.heap.size wr w' → Calls Try.prog 29 #[.agg #[.int .u8 y.f0, .int .u8 y.f1.f0, .string y.f1.f1, .int .i64 y.f1.f2.f0, .int .i64 y.f1.f2.f1, .int .i64 y.f1.f2.f2, .int .i64 y.f1.f3, .slice A1 y.f2.length c1], .pointer (some ⟨w0.heap.size + 1, 0, none⟩), .pointer (some ⟨w0.heap.size + 2, 0, none⟩)] w' fun e w'' => OutPost w0 w' (xs ++ [⟨1, k, noTk⟩] ++ tellsL (kids.take (i + 1))) e w'') := Lib.hid fun w' hb => by
            rw [hty, ← List.append_assoc]
            exact IH.out y A1 y.f2.length c1 hny rfl hl1 hC1 w' _ (HL.out.1.keep hb) (by
              have h1 := HLL.out
              have h2 := HSZ.out
              simp only [List.length_append, List.length_singleton]
              omega)
          have hbz : ∀ w1, Below (wr.heap.size + 1) (wr.alloc (.cells #[.int .u8 y.f0, .int .u8 y.f1.f0, .string y.f1.f1, .int .i64 y.f1.f2.f0, .int .i64 y.f1.f2.f1, .int .i64 y.f1.f2.f2, .int .i64 y.f1.f3, .slice A1 y.f2.length c1] TN)) w1 → _ := fun w1 h => box8 h
          obtain ⟨W6, hW6⟩ : ∃ W6, wr.alloc (.cells #[.int .u8 y.f0, .int .u8 y.f1.f0, .string y.f1.f1, .int .i64 y.f1.f2.f0, .int .i64 y.f1.f2.f1, .int .i64 y.f1.f2.f2, .int .i64 y.f1.f3, .slice A1 y.f2.length c1] TN) = W6 := ⟨_, rfl⟩
          have hb6 : Below wr.heap.size wr W6 := by rw [← hW6]; exact (Below.refl wr.heap.size wr).alloc (Nat.le_refl _) _
          rw [hW6] at hbz
          have HBZ := Lib.hid hbz
          have HW6 := Lib.hid hW6
          have HB6 := Lib.hid hb6
          have cW6 := pw_cell_below hb6 cW
          clear hy hl1 hC1 hbw hny hty htl hnt hn1 hi2 hbz hW6 hb6 cW
          go_upto_region 7 with (fail)
          rw [HW6.out]
          obtain ⟨q0, q1, q2, q3, q4, q5, q6, q7⟩ := HBZ.out W6 (Below.refl _ _)
          go_wp2_with (first
            | (go_at_call 29; (with_reducible refine (IHY.out _ HB6.out).mono ?_); rintro e w2 ⟨⟨v2, rfl⟩, ho2, hp2⟩; have HO2 := Lib.hid ho2; have HP2 := Lib.hid ((Keeps.of_below HB6.out).trans hp2); clear ho2 hp2))
          go_roundw
          case rel => exact ⟨i + 1, by omega, by go_num, Lib.hid ⟨HO2.out, HL.out.2.1.trans HP2.out, HP2.out _ _ HL.out.2.2⟩⟩
          case measure => simp [intOf]; omega
        · obtain rfl : n = i := by omega
          have hall : kids.take n = kids := List.take_of_length_le (by rw [HN.out]; exact Nat.le_refl _)
          have HL2 : Hid (Out w0 wr (xs ++ [⟨1, k, noTk⟩] ++ tellsL kids)) := Lib.hid (by have h := HL.out.1; rw [hall] at h; exact h)
          have HNB2 := Lib.hid HL.out.2.2
          have HKP := Lib.hid HL.out.2.1
          obtain ⟨ys, hys⟩ : ∃ ys, xs ++ [⟨1, k, noTk⟩] ++ tellsL kids = ys := ⟨_, rfl⟩
          have HYS := Lib.hid hys
          have HF5 : Hid ((ys.length + 1) * 64 ≤ 140737488355328) := Lib.hid (by
            have h1 := HLL.out
            have h2 := HSZ.out
            have h3 := tellsL_len kids
            rw [← hys]
            simp only [List.length_append, List.length_singleton]
            omega)
          rw [hys] at HL2
          clear hall HL hys
          obtain ⟨q0, q1, q2, q3, q4, q5, q6, q7⟩ := cells8 HNB2.out
          (obtain ⟨v5, hv5, hr5⟩ := (HL2.out).out); (obtain ⟨A5, c5, rfl⟩ := Kd.R_slice hr5); have cv5 := blk_cell hv5 0; have fv5 := blk_frozen hv5 0; simp only [List.getElem?_toArray, List.getElem?_cons_zero] at cv5; have HR5 := Lib.hid hr5; have HV5 := Lib.hid hv5; clear hr5 hv5
          go_wp2_with (first
            | ((with_reducible refine gate_dst (N := 38) rfl ?_); refine Kd.R_append kEv (w0 := wr) (w0.heap.size + 3) rfl (.tmp 33) (.tmp 37) 22 32 _ 64 rfl Try.underlying22 infoEv rfl (by decide) (by decide) (.slice A5 (ys).length c5) (ys) (⟨3, k, noTk⟩) (evCells (⟨3, k, noTk⟩)) (fun _ => True) (fun _ => False) rfl rfl (ev_M _ _ _) (fun _ h => h.elim) (fun _ _ => trivial) HR5.out (Below.refl _ _) (HL2.out).size HF5.out ?_; intro v6 w6 ho _ hg _; (obtain ⟨A6, c6, rfl⟩ := Kd.R_slice ho); have HG6 := Lib.hid hg; have HO6 := Lib.hid ho; have hm6 := Lib.hid ((hg.block (w0.heap.size + 1) (by have := (HL2.out).size; omega) (fun he => by have := Kd.R_base HR5.out _ he.symm; omega)).trans HV5.out); have cm6 := blk_cell hm6.out 0; have fm6 := blk_frozen hm6.out 0; simp only [List.getElem?_toArray, List.getElem?_cons_zero] at cm6; clear ho hg)
            | ((with_reducible refine gate_ (.store 22 (.tmp 1) (.tmp 38)) rfl ?_); refine wl_box rfl rfl _ _ _ rfl _ [.slice A6 ((ys) ++ [(⟨3, k, noTk⟩ : Ev)]).length c6] rfl rfl rfl infoEvS (fun u hu => by rw [List.mem_singleton.1 hu]; rfl) hm6.out rfl ?_; intro w7 h5 hu; have HKw7 := Lib.hid (Out.told HL2.out HR5.out HO6.out HG6.out h5 hu); have HPw7 := Lib.hid (Keeps.told HL2.out HR5.out HG6.out hu); clear h5 hu))
          refine bodyPost_end (results_none rfl _ _ _) rfl ?_
          refine ⟨⟨_, rfl⟩, ?_, HKP.out.trans HPw7.out⟩
          have ht := HKw7.out
          rw [HT.out]
          rw [← HYS.out] at ht
          simpa [evOpen, evClose] using ht
end Go.Proofs.Ytfefldkljbbbpaa

/- Events: what is told. -/
set_option linter.unusedVariables false
set_option linter.unusedSimpArgs false
namespace Go.Proofs.Ytfefldkljbbbpaa
open Go.RowKit Go.Proofs.YtfefldkljbbbpaaW.PrintWords Go.Proofs.YtfefldkljbbbpaaW.PrintLast Go.Proofs.YtfefldkljbbbpaaW.PrintMore

def EvPost (w0 : World) (l : List Ev) (e : Ending) (w' : World) : Prop := ∃ v, e = .returned v ∧ Kd.R kEv TE w' w0.heap.size (fun _ => True) v l ∧ Below w0.heap.size w0 w'
theorem heap_old {w : World} {o o' : Obj} {k : Nat} (h : w.heap[k]? = some o') : (w.alloc o).heap[k]? = some o' := (Below.heap_alloc w o k (blk_lt h)).trans h
theorem out_start (w0 : World) (nb : Obj) : Out w0 (((w0.alloc nb).alloc (.cells #[.slice none 0 0] 22)).alloc (.cells #[.func (.func 29) #[] #[.pointer (some ⟨w0.heap.size + 1, 0, none⟩), .pointer (some ⟨w0.heap.size + 2, 0, none⟩)]] 40)) [] := by
  have h1 := heap_alloc_new (w0.alloc nb) (.cells #[.slice none 0 0] 22)
  have h2 := heap_alloc_new ((w0.alloc nb).alloc (.cells #[.slice none 0 0] 22)) (.cells #[.func (.func 29) #[] #[.pointer (some ⟨w0.heap.size + 1, 0, none⟩), .pointer (some ⟨w0.heap.size + 2, 0, none⟩)]] 40)
  rw [World.size_alloc] at h1
  rw [World.size_alloc, World.size_alloc] at h2
  refine ⟨⟨.slice none 0 0, heap_old h1, Kd.R_nil _ _ _ _ _⟩, h2, ?_, ?_⟩
  · exact (((Below.refl w0.heap.size w0).alloc (Nat.le_refl _) _).alloc (by simp) _).alloc (by simp; omega) _
  · simp only [World.size_alloc]; omega
set_option maxRecDepth 100000 in
set_option maxHeartbeats 2000000 in
theorem events_any (x : Nd) (A : Option Addr) (n c : Nat) (w0 : World) (hn : x.f2.length = n) (hc : n ≤ c) (hC : Kd.C kNd w0 A n x.f2) (hl : 2 * nds x ≤ 1073741824) :
    Calls Try.prog 19 #[.agg #[.int .u8 x.f0, .int .u8 x.f1.f0, .string x.f1.f1, .int .i64 x.f1.f2.f0, .int .i64 x.f1.f2.f1, .int .i64 x.f1.f2.f2, .int .i64 x.f1.f3, .slice A n c]] w0 fun e w' => EvPost w0 (tells x) e w' := by
  have hW := Lib.hid (fun w (h : Out w0 w []) => walk_any w0 (nds x) x A n c (Nat.le_refl _) hn hc hC w [] h (by simpa using hl))
  have HS := Lib.hid (out_start w0 (.cells #[.int .u8 x.f0, .int .u8 x.f1.f0, .string x.f1.f1, .int .i64 x.f1.f2.f0, .int .i64 x.f1.f2.f1, .int .i64 x.f1.f2.f2, .int .i64 x.f1.f3, .slice A n c] TN))
  obtain ⟨ys, hys⟩ : ∃ ys, tells x = ys := ⟨_, rfl⟩
  rw [List.nil_append, hys] at hW
  rw [hys]
  clear hn hc hC hl hys
  go_enter Try.func19, Try.ntmps19
  go_wp2_with (first
    | (go_at_call 29; (with_reducible refine (hW.out _ HS.out).mono ?_); rintro e w2 ⟨⟨v2, rfl⟩, ho2, hp2⟩; (obtain ⟨v3, hv3, hr3⟩ := ho2.out); have cv3 := blk_cell hv3 0; simp only [List.getElem?_toArray, List.getElem?_cons_zero] at cv3; have HR3 := Lib.hid hr3; have HB3 := Lib.hid ho2.below; clear ho2 hp2 hr3 hv3))

  go_ret
  exact ⟨_, rfl, Kd.R_lower HR3.out (by omega), HB3.out⟩
end Go.Proofs.Ytfefldkljbbbpaa
