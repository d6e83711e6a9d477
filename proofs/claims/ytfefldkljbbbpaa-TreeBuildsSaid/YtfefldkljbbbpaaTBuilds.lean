/- TreeBuilds: the walk. (Printed by gentb.py.) -/
import Derived.Test.YtfefldkljbbbpaaCopyEv
import Derived.Test.YtfefldkljbbbpaaRefB
import Derived.Test.YtfefldkljbbbpaaWhole
import Derived.Test.YtfefldkljbbbpaaSpoil
import Derived.Test.YtfefldkljbbbpaaAwake
set_option linter.unusedVariables false
set_option linter.unusedSimpArgs false
namespace Go.Proofs.Ytfefldkljbbbpaa
open Go.RowKit Go.Shelf Go.Proofs.YtfefldkljbbbpaaW.PrintWords Go.Proofs.YtfefldkljbbbpaaW.PrintLast Go.Proofs.YtfefldkljbbbpaaW.PrintMore

theorem wl_awake (n m : Nat) (A B : Option Addr) (c d : Nat) (W : World) (h : 16777216 < n ∨ 16777216 < m) :
    Calls Try.prog 3 #[.slice A n c, .slice B m d] W fun e w' => e = .returned (.bool true) ∧ Below W.heap.size W w' := by
  have HAW := Lib.hid awake13
  by_cases hn : 16777216 < n
  · have d1 : decide ((16777216 : Int) < n) = true := decide_eq_true (by omega)
    have d2 : decide (16777216 < n) = true := decide_eq_true (by omega)
    go_enter Try.func3, Try.ntmps3
    go_wp2_with (go_at_call 8; refine (HAW.out _).mono ?_; rintro e w2 ⟨rfl, hb2⟩; have HB2 := Lib.hid hb2; clear hb2)
    go_ret
    exact ⟨rfl, HB2.out⟩
  · have d1 : decide ((16777216 : Int) < n) = false := decide_eq_false (by omega)
    have d2 : decide (16777216 < n) = false := decide_eq_false (by omega)
    have d3 : decide ((16777216 : Int) < m) = true := decide_eq_true (by omega)
    have d4 : decide (16777216 < m) = true := decide_eq_true (by omega)
    go_enter Try.func3, Try.ntmps3
    go_wp2_with (go_at_call 8; refine (HAW.out _).mono ?_; rintro e w2 ⟨rfl, hb2⟩; have HB2 := Lib.hid hb2; clear hb2)
    go_ret
    exact ⟨rfl, HB2.out⟩
def markE : List Value := [.int .u8 99, .int .u8 0, .int .u8 0, .string ⟨#[]⟩, .int .i64 0, .int .i64 0, .int .i64 0, .int .i64 0]
theorem markE_one : ∀ v ∈ markE, v.oneCell' = true := by decide
theorem bld_nds (l : List Ev) : nds (bld l).1 ≤ l.length + 1 := by
  cases h : runB l [] with
  | none => rw [bld_none h]; simp [noNd, nds, ndsL]
  | some x =>
    rw [bld_some h]
    have := run_nds l [] x h
    simp only [ndsL] at this
    show nds x ≤ _
    omega
theorem infoEv8 : (Try.prog.info? 32).map (·.size) = some 8 := by kernel_rfl
theorem mark_set {W : World} {g n : Nat} {l : List Ev} {zs : Array Value} (hl : l.length = n) (hz : zs.size = (n + 1) * 8) (hg : W.heap[g]? = some (.cells (l.flatMap evCells ++ zs.toList.drop (n * 8)).toArray 32 (0, 0))) :
    n * 8 + markE.length ≤ (l.flatMap evCells ++ zs.toList.drop (n * 8)).toArray.size ∧ ∀ V, V = W.setCells g (n * 8) markE → V.heap[g]? = some (.cells (l.flatMap evCells ++ markE).toArray 32 (0, 0)) ∧ Upd g W V := by
  have hfit : n * 8 + markE.length ≤ (l.flatMap evCells ++ zs.toList.drop (n * 8)).toArray.size := by
    simp only [List.size_toArray, List.length_append, flat_len, List.length_drop, Array.length_toList, hl, hz]
    simp only [markE, List.length_cons, List.length_nil]
    omega
  refine ⟨hfit, fun V hV => ?_⟩
  subst hV
  obtain ⟨cur', k1, k2, k3⟩ := setCells_row markE (n * 8) W _ hg hfit
  refine ⟨?_, fun k hk => setCells_far markE _ k hk, (setCells_same g markE (n * 8) W).1, (setCells_same g markE (n * 8) W).2.1, (setCells_same g markE (n * 8) W).2.2.1, (setCells_same g markE (n * 8) W).2.2.2⟩
  rw [k1]
  have hf : (l.flatMap evCells).length = n * 8 := by rw [flat_len, hl]
  have : cur'.toList = l.flatMap evCells ++ markE := by
    rw [k3]
    simp only
    rw [List.take_append_of_le_length (by omega), List.take_of_length_le (by omega), List.drop_of_length_le (by
      simp only [List.length_append, hf, List.length_drop, Array.length_toList, hz]
      simp only [markE, List.length_cons, List.length_nil]
      omega), List.append_nil]
  have e : cur' = (l.flatMap evCells ++ markE).toArray := Array.ext' (by simpa using this)
  rw [e]

set_option maxRecDepth 100000 in
set_option maxHeartbeats 4000000 in
theorem treeBuilds_main (l m : List Ev) (A B : Option Addr) (n c k d : Nat) (W : World) (hn : l.length = n) (hk : m.length = k) (hnb : n ≤ 16777216) (hkb : k ≤ 16777216) (hlc : n ≤ c) (hkd : k ≤ d) (hC : Kd.C kEv W A n l) (hD : Kd.C kEv W B k m) :
    Calls Try.prog 3 #[.slice A n c, .slice B k d] W fun e w' => e = .returned (.bool true) ∧ Below W.heap.size W w' := by
  have HAW := Lib.hid awake13
  have d1 : decide ((16777216 : Int) < n) = false := decide_eq_false (by omega)
  have d2 : decide (16777216 < n) = false := decide_eq_false (by omega)
  have d3 : decide ((16777216 : Int) < k) = false := decide_eq_false (by omega)
  have d4 : decide (16777216 < k) = false := decide_eq_false (by omega)
  obtain ⟨zs, hzs, hmk⟩ := make_events n (by omega)
  obtain ⟨x, hx⟩ : ∃ x, (bld l).1 = x := ⟨_, rfl⟩
  obtain ⟨ex, hex⟩ : ∃ e, (bld l).2 = e := ⟨_, rfl⟩
  obtain ⟨y, hy⟩ : ∃ y, (bld m).1 = y := ⟨_, rfl⟩
  obtain ⟨ey, hey⟩ : ∃ e, (bld m).2 = e := ⟨_, rfl⟩
  have hnx : nds x ≤ 16777217 := by rw [← hx]; exact Nat.le_trans (bld_nds l) (by omega)
  have hny : nds y ≤ 16777217 := by rw [← hy]; exact Nat.le_trans (bld_nds m) (by omega)
  have HX := Lib.hid (And.intro hx hex)
  have HY := Lib.hid (And.intro hy hey)
  have HNX := Lib.hid (And.intro hnx hny)
  have HC := Lib.hid hC
  have HD := Lib.hid hD
  have HZS := Lib.hid hzs
  have HLN := Lib.hid (And.intro hn hk)
  have HCAP := Lib.hid (And.intro hlc hkd)
  clear hx hex hy hey hnx hny hC hD hzs hn hk hlc hkd
  go_enter Try.func3, Try.ntmps3
  go_upto_region 5 with (go_at_call 8; refine (HAW.out _).mono ?_; rintro e w2 ⟨rfl, hb2⟩; have HB2 := Lib.hid hb2; clear hb2)
  obtain ⟨w3, hw3, h3, hb3, hz3⟩ : ∃ V, w2.alloc (.cells zs 32) = V ∧ V.heap[w2.heap.size]? = some (.cells zs 32 (0, 0)) ∧ Below w2.heap.size w2 V ∧ V.heap.size = w2.heap.size + 1 := ⟨_, rfl, World.alloc_heap_new _ _, (Below.refl _ w2).alloc (Nat.le_refl _) _, World.size_alloc _ _⟩
  rw [hw3]
  have HZ3 := Lib.hid h3
  have HS3 := Lib.hid hz3
  have HB23 := Lib.hid hb3
  have HB3 := Lib.hid (HB2.out.trans (hb3.mono HB2.out.size))
  clear hw3 h3 hz3 hb3 hmk
  have g1 : (n : Int) < (n : Int) + 1 := by omega
  have HC3 := Lib.hid (Kd.C_below HC.out HB3.out)
  have HFT : Hid (n * 8 ≤ zs.size) := Lib.hid (by rw [HZS.out]; omega)
  go_upto_region 8 with (first
    | ((with_reducible refine gate_dst (N := 44) rfl ?_); refine wl_copyEv rfl (.tmp 42) (.tmp 43) rfl w2.heap.size n (n + 1) c A zs l rfl rfl HZ3.out HC3.out HFT.out ?_; intro w4 h4 hu4; have H4 := Lib.hid h4; have HU4 := Lib.hid hu4; clear h4 hu4)
    | ((with_reducible refine gate_ (.store 32 (.tmp 54) (.tmp 53)) rfl ?_); refine wl_cells rfl rfl _ _ _ rfl (g := w2.heap.size) (off := n * 8) (.agg markE.toArray) markE rfl rfl rfl infoEv8 markE_one H4.out (mark_set HLN.out.1 HZS.out H4.out).1 ?_; intro w5 hw5; have H5 := Lib.hid ((mark_set HLN.out.1 HZS.out H4.out).2 w5 hw5); clear hw5))
  have hb5 : Below w2.heap.size w2 w5 := H5.out.2.below (HU4.out.below HB23.out (Nat.le_refl _)) (Nat.le_refl _)
  have hs5 : w5.heap.size = w2.heap.size + 1 := by rw [H5.out.2.size, HU4.out.size, HS3.out]
  have HG := Lib.hid H5.out.1
  have HB25 := Lib.hid hb5
  have HB5 := Lib.hid (HB2.out.trans (hb5.mono HB2.out.size))
  have HS5 := Lib.hid hs5
  have hci : Kd.C kEv w5 (some ⟨w2.heap.size, 0, none⟩) n l := by have := ev_row2 H5.out.1 (by have := HLN.out.1; omega); rwa [HLN.out.1] at this
  have HCI := Lib.hid hci
  have HBU := Lib.hid (build_any (some ⟨w2.heap.size, 0, none⟩) n (n + 1) l w5 hci HLN.out.1 (by omega))
  clear hb5 hs5 hci HFT HC3 HZ3
  go_upto_region 9 with (go_at_call 9; refine (HBU.out).mono ?_; rintro e w6 ⟨v6, rfl, ho6, hb6⟩; rw [HX.out.1] at ho6 ⊢; rw [HX.out.2]; obtain ⟨A6, c6, rfl, hc6, hk6⟩ := ownS_C ho6; have HO6 := Lib.hid ho6; have HK6 := Lib.hid (And.intro hc6 hk6); have HB56 := Lib.hid hb6; have HB6 := Lib.hid (HB5.out.trans (hb6.mono HB5.out.size)); clear ho6 hb6 hc6 hk6)
  obtain ⟨w7, hw, hh, hb, hz⟩ := nd_new (W := w6) (cs := #[.int .u8 x.f0, .int .u8 x.f1.f0, .string x.f1.f1, .int .i64 x.f1.f2.f0, .int .i64 x.f1.f2.f1, .int .i64 x.f1.f2.f2, .int .i64 x.f1.f3, .slice A6 x.f2.length c6])
  rw [hw]
  have HH7 := Lib.hid hh
  have HBB7 := Lib.hid hb
  have HS7 := Lib.hid hz
  have HB7 := Lib.hid (HB6.out.trans (hb.mono HB6.out.size))
  clear hw hh hb hz
  have HBU2 := Lib.hid (build_any B k d m w7 (Kd.C_below HD.out HB7.out) HLN.out.2 (by omega))
  go_upto_region 10 with (go_at_call 9; refine (HBU2.out).mono ?_; rintro e w8 ⟨v6, rfl, ho6, hb6⟩; rw [HY.out.1] at ho6 ⊢; rw [HY.out.2]; obtain ⟨A8, c8, rfl, hc6, hk6⟩ := ownS_C ho6; have HO8 := Lib.hid ho6; have HK8 := Lib.hid (And.intro hc6 hk6); have HBB8 := Lib.hid hb6; have HB8 := Lib.hid (HB7.out.trans (hb6.mono HB7.out.size)); clear ho6 hb6 hc6 hk6)
  obtain ⟨w9, hw, hh, hb, hz⟩ := nd_new (W := w8) (cs := #[.int .u8 y.f0, .int .u8 y.f1.f0, .string y.f1.f1, .int .i64 y.f1.f2.f0, .int .i64 y.f1.f2.f1, .int .i64 y.f1.f2.f2, .int .i64 y.f1.f3, .slice A8 y.f2.length c8])
  rw [hw]
  have HH9 := Lib.hid hh
  have HBB9 := Lib.hid hb
  have HS9 := Lib.hid hz
  have HB9 := Lib.hid (HB8.out.trans (hb.mono HB8.out.size))
  clear hw hh hb hz
  have HRU := Lib.hid (refbuild_any A n c l w9 (Kd.C_below HC.out HB9.out) HLN.out.1 (by omega))
  go_upto_region 11 with (go_at_call 10; refine (HRU.out).mono ?_; rintro e w10 ⟨v6, rfl, ho6, hb6⟩; rw [HX.out.1] at ho6 ⊢; rw [HX.out.2]; obtain ⟨A10, c10, rfl, hc6, hk6⟩ := ownS_C ho6; have HO10 := Lib.hid ho6; have HK10 := Lib.hid (And.intro hc6 hk6); have HBB10 := Lib.hid hb6; have HB10 := Lib.hid (HB9.out.trans (hb6.mono HB9.out.size)); clear ho6 hb6 hc6 hk6)
  obtain ⟨w11, hw, hh, hb, hz⟩ := nd_new (W := w10) (cs := #[.int .u8 x.f0, .int .u8 x.f1.f0, .string x.f1.f1, .int .i64 x.f1.f2.f0, .int .i64 x.f1.f2.f1, .int .i64 x.f1.f2.f2, .int .i64 x.f1.f3, .slice A10 x.f2.length c10])
  rw [hw]
  have HH11 := Lib.hid hh
  have HBB11 := Lib.hid hb
  have HS11 := Lib.hid hz
  have HB11 := Lib.hid (HB10.out.trans (hb.mono HB10.out.size))
  clear hw hh hb hz
  have HRU2 := Lib.hid (refbuild_any B k d m w11 (Kd.C_below HD.out HB11.out) HLN.out.2 (by omega))
  go_upto_region 12 with (go_at_call 10; refine (HRU2.out).mono ?_; rintro e w12 ⟨v6, rfl, ho6, hb6⟩; rw [HY.out.1] at ho6 ⊢; rw [HY.out.2]; obtain ⟨A12, c12, rfl, hc6, hk6⟩ := ownS_C ho6; have HO12 := Lib.hid ho6; have HK12 := Lib.hid (And.intro hc6 hk6); have HBB12 := Lib.hid hb6; have HB12 := Lib.hid (HB11.out.trans (hb6.mono HB11.out.size)); clear ho6 hb6 hc6 hk6)
  obtain ⟨w13, hw, hh, hb, hz⟩ := nd_new (W := w12) (cs := #[.int .u8 y.f0, .int .u8 y.f1.f0, .string y.f1.f1, .int .i64 y.f1.f2.f0, .int .i64 y.f1.f2.f1, .int .i64 y.f1.f2.f2, .int .i64 y.f1.f3, .slice A12 y.f2.length c12])
  rw [hw]
  have HH13 := Lib.hid hh
  have HBB13 := Lib.hid hb
  have HS13 := Lib.hid hz
  have HB13 := Lib.hid (HB12.out.trans (hb.mono HB12.out.size))
  clear hw hh hb hz
  -- what was laid before, seen from w13
  have b1213 := HBB13.out
  have b1113 := HBB12.out.trans (b1213.mono HBB12.out.size)
  have b1013 := HBB11.out.trans (b1113.mono HBB11.out.size)
  have b913 := HBB10.out.trans (b1013.mono HBB10.out.size)
  have b813 := HBB9.out.trans (b913.mono HBB9.out.size)
  have b713 := HBB8.out.trans (b813.mono HBB8.out.size)
  have b613 := HBB7.out.trans (b713.mono HBB7.out.size)
  have b513 := HB56.out.trans (b613.mono HB56.out.size)
  have z5 := HB56.out.size
  have z6 := HBB8.out.size
  have z7 := HBB10.out.size
  have z8 := HBB12.out.size
  have HSZ := Lib.hid (show w2.heap.size + 1 = w5.heap.size ∧ w5.heap.size ≤ w6.heap.size ∧ w6.heap.size + 1 = w7.heap.size ∧ w7.heap.size ≤ w8.heap.size ∧ w8.heap.size + 1 = w9.heap.size ∧ w9.heap.size ≤ w10.heap.size ∧ w10.heap.size + 1 = w11.heap.size ∧ w11.heap.size ≤ w12.heap.size ∧ w12.heap.size + 1 = w13.heap.size from ⟨HS5.out.symm, z5, HS7.out.symm, z6, HS9.out.symm, z7, HS11.out.symm, z8, HS13.out.symm⟩)
  have G0 := Lib.hid ((b513.block _ (blk_lt HG.out)).trans HG.out)
  have GA := Lib.hid ((b713.block _ (blk_lt HH7.out)).trans HH7.out)
  have GB := Lib.hid ((b913.block _ (blk_lt HH9.out)).trans HH9.out)
  have GX := Lib.hid ((b1113.block _ (blk_lt HH11.out)).trans HH11.out)
  have GY := Lib.hid HH13.out
  have OA : OwnS w13 w5.heap.size (.slice A6 x.f2.length c6) x.f2 (fun b => w5.heap.size ≤ b ∧ b < w6.heap.size) := ownS_below (ownS_mono (ownS_bound HO6.out) (fun b hb => ⟨hb.2.1, hb.2.2.1⟩)) b613
  have OB : OwnS w13 w7.heap.size (.slice A8 y.f2.length c8) y.f2 (fun b => w7.heap.size ≤ b ∧ b < w8.heap.size) := ownS_below (ownS_mono (ownS_bound HO8.out) (fun b hb => ⟨hb.2.1, hb.2.2.1⟩)) b813
  have OX : OwnS w13 w9.heap.size (.slice A10 x.f2.length c10) x.f2 (fun b => w9.heap.size ≤ b ∧ b < w10.heap.size) := ownS_below (ownS_mono (ownS_bound HO10.out) (fun b hb => ⟨hb.2.1, hb.2.2.1⟩)) b1013
  have HOA := Lib.hid OA
  have HOB := Lib.hid OB
  have HOX := Lib.hid OX
  have HC12 := Lib.hid (show Kd.C kNd w13 A12 y.f2.length y.f2 from Kd.C_below HK12.out.2 b1213)
  have HW1 := Lib.hid (fun V (hV : Below w13.heap.size w13 V) => whole_any (nds x) x A6 A10 c6 c10 V (Nat.le_refl _) (by have := HNX.out.1; omega) HK6.out.1 HK10.out.1 (Kd.C_below (Kd.C_below HK6.out.2 b613) hV) (Kd.C_below (Kd.C_below HK10.out.2 b1013) hV))
  have HW2 := Lib.hid (fun V (hV : Below w13.heap.size w13 V) => whole_any (nds y) y A8 A12 c8 c12 V (Nat.le_refl _) (by have := HNX.out.2; omega) HK8.out.1 HK12.out.1 (Kd.C_below (Kd.C_below HK8.out.2 b813) hV) (Kd.C_below HC12.out hV))
  have HSP1 := Lib.hid (fun V (hV : Below w13.heap.size w13 V) => spoil_any (nds x) x A6 c6 w5.heap.size _ V (Nat.le_refl _) (by have := HNX.out.1; omega) (by have := hV.size; have := HSZ.out; omega) (ownS_below OA hV))
  have HSP2 := Lib.hid (fun V V2 (hV : Below w13.heap.size w13 V) (hs : Spoilt (fun b => (w5.heap.size ≤ b ∧ b < w6.heap.size) ∧ b < V.heap.size) V V2) => spoil_any (nds y) y A8 c8 w7.heap.size _ V2 (Nat.le_refl _) (by have := HNX.out.2; omega) (by have := hV.size; have := hs.size; have := HSZ.out; omega) (ownS_move (ownS_below OB hV) (fun b hb => hs.block b (by have := hV.size; have := HSZ.out; omega) (fun h => by have := HSZ.out; omega))))
  have hkeep : ∀ V V2 V3 : World, Below w13.heap.size w13 V → Spoilt (fun b => (w5.heap.size ≤ b ∧ b < w6.heap.size) ∧ b < V.heap.size) V V2 → Spoilt (fun b => (w7.heap.size ≤ b ∧ b < w8.heap.size) ∧ b < V2.heap.size) V2 V3 → ∀ b, b < w13.heap.size → ¬ (w5.heap.size ≤ b ∧ b < w6.heap.size) → ¬ (w7.heap.size ≤ b ∧ b < w8.heap.size) → V3.heap[b]? = w13.heap[b]? := fun V V2 V3 h1 h2 h3 b hb n1 n2 =>
    (h3.block b (by have := h1.size; have := h2.size; omega) (fun h => n2 h.1)).trans ((h2.block b (by have := h1.size; omega) (fun h => n1 h.1)).trans (h1.block b hb))
  have HKEEP := Lib.hid hkeep
  have hbel : ∀ V V2 V3 : World, Below w13.heap.size w13 V → Spoilt (fun b => (w5.heap.size ≤ b ∧ b < w6.heap.size) ∧ b < V.heap.size) V V2 → Spoilt (fun b => (w7.heap.size ≤ b ∧ b < w8.heap.size) ∧ b < V2.heap.size) V2 V3 → Below w5.heap.size w13 V3 := fun V V2 V3 h1 h2 h3 =>
    ((h1.mono (by have := HSZ.out; omega)).trans (h2.below (fun k hk => hk.1.1) (by have := h1.size; have := HSZ.out; omega))).trans (h3.below (fun k hk => by have := hk.1.1; have := HSZ.out; omega) (by have := h1.size; have := h2.size; have := HSZ.out; omega))
  have HBEL := Lib.hid hbel
  have HB513 := Lib.hid b513
  clear b1213 b1113 b1013 b913 b813 b713 b613 b513 z5 z6 z7 z8 OA OB OX hkeep hbel HBU HBU2 HRU HRU2
  obtain ⟨p0, p1, p2, p3, p4, p5, p6, p7⟩ := nd_box GA.out w13 (Below.refl _ _)
  obtain ⟨q0, q1, q2, q3, q4, q5, q6, q7⟩ := nd_box GX.out w13 (Below.refl _ _)
  go_upto_region 17 with (first
    | (go_at_call 11; (with_reducible refine (HW1.out w13 (Below.refl _ _)).mono ?_); rintro e w14 ⟨rfl, hb14⟩; have HB14 := Lib.hid hb14; clear p0 p1 p2 p3 p4 p5 p6 p7 q0 q1 q2 q3 q4 q5 q6 q7; obtain ⟨p0, p1, p2, p3, p4, p5, p6, p7⟩ := nd_box GB.out w14 hb14; obtain ⟨q0, q1, q2, q3, q4, q5, q6, q7⟩ := nd_box GY.out w14 hb14; clear hb14)
    | (go_at_call 11; (with_reducible refine (HW2.out w14 HB14.out).mono ?_); rintro e w15 ⟨rfl, hb15⟩; have hb15' := HB14.out.trans (hb15.mono HB14.out.size); have HB15 := Lib.hid hb15'; clear p0 p1 p2 p3 p4 p5 p6 p7 q0 q1 q2 q3 q4 q5 q6 q7 hb15; obtain ⟨p0, p1, p2, p3, p4, p5, p6, p7⟩ := nd_box GA.out w15 hb15'; clear hb15')
    | (go_at_call 12; (with_reducible refine (HSP1.out w15 HB15.out).mono ?_); rintro e w16 ⟨rfl, hs16⟩; have HS16 := Lib.hid hs16; clear p0 p1 p2 p3 p4 p5 p6 p7; obtain ⟨p0, p1, p2, p3, p4, p5, p6, p7⟩ := nd_box ((hs16.block w8.heap.size (by have := HB15.out.size; have := HSZ.out; omega) (fun h => by have := HSZ.out; omega)).trans ((HB15.out.block w8.heap.size (by have := HSZ.out; omega)).trans GB.out)) w16 (Below.refl _ _); clear hs16)
    | (go_at_call 12; (with_reducible refine (HSP2.out w15 w16 HB15.out HS16.out).mono ?_); rintro e w17 ⟨rfl, hs17⟩; have HS17 := Lib.hid hs17; have HB5_17 := Lib.hid (HB513.out.trans (HBEL.out w15 w16 w17 HB15.out HS16.out hs17)); have HG17 := Lib.hid ((HKEEP.out w15 w16 w17 HB15.out HS16.out hs17 w2.heap.size (by have := HSZ.out; omega) (fun h => by have := HSZ.out; omega) (fun h => by have := HSZ.out; omega)).trans G0.out); have HX17 := Lib.hid ((HKEEP.out w15 w16 w17 HB15.out HS16.out hs17 w10.heap.size (by have := HSZ.out; omega) (fun h => by have := HSZ.out; omega) (fun h => by have := HSZ.out; omega)).trans GX.out); have HOX17 := Lib.hid (ownS_move HOX.out (fun b hb => HKEEP.out w15 w16 w17 HB15.out HS16.out hs17 b (by have := HSZ.out; omega) (fun h => by have := HSZ.out; omega) (fun h => by have := HSZ.out; omega))); have hci : Kd.C kEv w17 (some ⟨w2.heap.size, 0, none⟩) n l := (by have := ev_row2 HG17.out (by have := HLN.out.1; omega); rwa [HLN.out.1] at this); have HBU3 := Lib.hid (build_any (some ⟨w2.heap.size, 0, none⟩) n (n + 1) l w17 hci HLN.out.1 (by omega)); clear p0 p1 p2 p3 p4 p5 p6 p7 hs17 hci)
    | (go_at_call 9; refine (HBU3.out).mono ?_; rintro e w18 ⟨v6, rfl, ho6, hb6⟩; rw [HX.out.1] at ho6 ⊢; rw [HX.out.2]; obtain ⟨A18, c18, rfl, hc6, hk6⟩ := ownS_C ho6; have HK18 := Lib.hid (And.intro hc6 hk6); have HB1718 := Lib.hid hb6; clear ho6 hb6 hc6 hk6))
  obtain ⟨w19, hw19, hh19, hb19, hz19⟩ := nd_new (W := w18) (cs := #[.int .u8 x.f0, .int .u8 x.f1.f0, .string x.f1.f1, .int .i64 x.f1.f2.f0, .int .i64 x.f1.f2.f1, .int .i64 x.f1.f2.f2, .int .i64 x.f1.f3, .slice A18 x.f2.length c18])
  rw [hw19]
  have hb1719 := HB1718.out.trans (hb19.mono HB1718.out.size)
  have hb519 : Below w5.heap.size w5 w19 := HB5_17.out.trans (hb1719.mono HB5_17.out.size)
  have HB519 := Lib.hid hb519
  have HBC := Lib.hid hh19
  have HX19 := Lib.hid ((hb1719.block _ (blk_lt HX17.out)).trans HX17.out)
  have HG19 := Lib.hid ((hb1719.block _ (blk_lt HG17.out)).trans HG17.out)
  have hcx : Kd.C kNd w19 A10 x.f2.length x.f2 := by
    obtain ⟨A', c', he, -, hr⟩ := ownS_C HOX17.out
    injection he with e1 _ _
    subst e1
    exact Kd.C_below hr hb1719
  have HW3 := Lib.hid (whole_any (nds x) x A18 A10 c18 c10 w19 (Nat.le_refl _) (by have := HNX.out.1; omega) HK18.out.1 HK10.out.1 (Kd.C_below HK18.out.2 hb19) hcx)
  obtain ⟨ks, rs, hks, hrs⟩ := same_f l l (by have := HLN.out.1; omega)
  obtain rfl : rs = true := hrs.2 rfl
  have HSM := Lib.hid (fun V (hV : Below w19.heap.size w19 V) (hc1 : Kd.C kEv V (some ⟨w2.heap.size, 0, none⟩) n l) (hc2 : Kd.C kEv V A n l) => by
    have := PTreeSame.colophonlaw13_same.calls ks (some ⟨w2.heap.size, 0, none⟩) (n + 1) l A c l true V (by rw [HLN.out.1]; exact hc1) (by rw [HLN.out.1]; omega) (by rw [HLN.out.1]; exact hc2) (by rw [HLN.out.1]; exact HCAP.out.1) hks
    rw [HLN.out.1] at this
    exact this)
  clear hw19 hh19 hb19 hz19 hb1719 hb519 hcx hks hrs
  obtain ⟨p0, p1, p2, p3, p4, p5, p6, p7⟩ := nd_box HBC.out w19 (Below.refl _ _)
  obtain ⟨q0, q1, q2, q3, q4, q5, q6, q7⟩ := nd_box HX19.out w19 (Below.refl _ _)
  go_wp2_with (first
    | (go_at_call 11; (with_reducible refine (HW3.out).mono ?_); rintro e w20 ⟨rfl, hb20⟩; have HB20 := Lib.hid hb20; clear p0 p1 p2 p3 p4 p5 p6 p7 q0 q1 q2 q3 q4 q5 q6 q7 hb20)
    | (go_at_call 13; refine (HSM.out w20 HB20.out (by have := ev_row2 ((HB20.out.block _ (blk_lt HG19.out)).trans HG19.out) (by have := HLN.out.1; omega); rwa [HLN.out.1] at this) (Kd.C_below HC.out (HB5.out.trans ((HB519.out.trans (HB20.out.mono HB519.out.size)).mono HB5.out.size)))).mono ?_; rintro e w21 ⟨rfl, hd21⟩; have hb21 := HB20.out.trans (hd21.below.mono HB20.out.size); have HB21 := Lib.hid hb21; have hm : w21.cell? ⟨w2.heap.size, n * 8, none⟩ = some (.int .u8 99) := (by rw [cell_of_row _ _ _ _ _ _ ((hb21.block _ (blk_lt HG19.out)).trans HG19.out)]; have hf : (l.flatMap evCells).length = n * 8 := (by rw [flat_len, HLN.out.1]); rw [List.getElem?_toArray, List.getElem?_append_right (by omega), hf, Nat.sub_self]; rfl); clear hd21 hb21))
  go_ret
  exact ⟨rfl, HB5.out.trans ((HB519.out.trans (HB21.out.mono HB519.out.size)).mono HB5.out.size)⟩
end Go.Proofs.Ytfefldkljbbbpaa
