/- The document's add and put: the walks. (Printed by genadd.py.) -/
import Derived.Test.YtfefldkljbbbpaaGrew
import Derived.Test.YtfefldkljbbbpaaRefK

set_option linter.unusedVariables false
set_option linter.unusedSimpArgs false
namespace Go.Proofs.Ytfefldkljbbbpaa
open Go.RowKit Go.Shelf Go.Proofs.YtfefldkljbbbpaaW.PrintWords Go.Proofs.YtfefldkljbbbpaaW.PrintLast Go.Proofs.YtfefldkljbbbpaaW.PrintMore

set_option maxRecDepth 100000 in
set_option maxHeartbeats 4000000 in
theorem add_any (w0 : World) (B : Nat) (hB : w0.heap.size ≤ B) : ∀ (N : Nat) (x : Nd) (A : Option Addr) (c : Nat) (w : World) (v : Value) (xs : List Ev), nds x ≤ N → x.f2.length ≤ c → Kd.C kNd w0 A x.f2.length x.f2 → Below w0.heap.size w0 w → B ≤ w.heap.size → Kd.R kEv TE w B (fun _ => True) v xs → xs.length + 2 * nds x ≤ 1073741824 →
    Calls Try.prog 30 #[v, .agg #[.int .u8 x.f0, .int .u8 x.f1.f0, .string x.f1.f1, .int .i64 x.f1.f2.f0, .int .i64 x.f1.f2.f1, .int .i64 x.f1.f2.f2, .int .i64 x.f1.f3, .slice A x.f2.length c]] w fun e w' => ∃ v', e = .returned v' ∧ Grew kEv TE B w w' v v' (xs ++ tells x) := by
  intro N
  induction N with
  | zero => intro x A c w v xs hN; have := nds_pos x; omega
  | succ N ih =>
    intro x A c w v xs hN hlc hC hbw hBw hR hlen
    obtain ⟨Av, cv, rfl⟩ := Kd.R_slice hR
    have hn : x.f2.length ≤ 536870912 := by rw [nds_eq] at hlen; have := ndsL_len x.f2; omega
    obtain ⟨W1, hW1, h1, hb1, hz1⟩ := nd_new (W := w) (cs := #[.int .u8 x.f0, .int .u8 x.f1.f0, .string x.f1.f1, .int .i64 x.f1.f2.f0, .int .i64 x.f1.f2.f1, .int .i64 x.f1.f2.f2, .int .i64 x.f1.f3, .slice A x.f2.length c])
    have HW1 := Lib.hid hW1
    have HBX := Lib.hid h1
    have HX1 := Lib.hid (nd_box h1)
    have HB1 := Lib.hid hb1
    have HBw := Lib.hid hBw
    have HR0 := Lib.hid hR
    have HR1 := Lib.hid (Kd.R_below hR hb1)
    have HS1 : Hid (B ≤ W1.heap.size) := Lib.hid (Nat.le_trans hBw hb1.size)
    have HC := Lib.hid hC
    have HBW := Lib.hid hbw
    have IH := Lib.hid ih
    have HNN := Lib.hid (And.intro hN hlc)
    have HLEN := Lib.hid hlen
    have HF1 : Hid ((xs.length + 1) * 64 ≤ 140737488355328) := Lib.hid (by have := nds_pos x; omega)
    clear hW1 h1 hb1 hz1 hR hC hbw ih hN hlc hlen hBw
    by_cases h0 : x.f0 = 0
    · have e0 : (x.f0 == 0) = true := by simp [h0]
      have ht : tells x = [evTok x.f1] := by rw [tells_eq, if_pos h0]
      have HT := Lib.hid ht
      obtain ⟨nb, hnb⟩ : ∃ b, isNote x.f1 = b := ⟨_, rfl⟩
      have HNB := Lib.hid hnb
      have HCM := Lib.hid (comment2 x.f1)
      clear h0 ht hnb
      cases nb with
      | true =>
        go_enter Try.func30, Try.ntmps30
        go_upto_region 1 with (fail)
        rw [HW1.out]
        obtain ⟨q0, q1, q2, q3, q4, q5, q6, q7⟩ := HX1.out W1 (Below.refl _ _)
        go_wp2_with (first
          | (go_at_call 35; refine (HCM.out W1).mono ?_; rintro e w2 ⟨rfl, hb2⟩; rw [HNB.out]; have HB2 := Lib.hid (HB1.out.trans (hb2.mono HB1.out.size)); have HR2 := Lib.hid (Kd.R_below HR1.out hb2); have HS2 := Lib.hid (Nat.le_trans HS1.out hb2.size); obtain ⟨q0, q1, q2, q3, q4, q5, q6, q7⟩ := HX1.out w2 hb2; clear hb2)
          | ((with_reducible refine gate_dst (N := 19) rfl ?_); refine Kd.R_append kEv (w0 := w2) B rfl (.tmp 14) (.tmp 18) 22 TE _ 64 rfl Try.underlying22 infoEv rfl (by decide) (by decide) (.slice Av xs.length cv) (xs) (⟨4, 0, x.f1⟩) (evCells ⟨4, 0, x.f1⟩) (fun _ => True) (fun _ => False) rfl rfl (ev_M _ _ _) (fun _ h => h.elim) (fun _ _ => trivial) HR2.out (Below.refl _ _) HS2.out HF1.out ?_; intro v3 w3 ho _ hg hat; have HGw3 := Lib.hid (Grew.mk (d := kEv) ho hg hat); obtain ⟨Aw3, cw3, hv⟩ := Kd.R_slice ho; obtain ⟨nw3, hnw3⟩ : ∃ n, (xs ++ ([⟨4, 0, x.f1⟩] : List Ev)).length = n := ⟨_, rfl⟩; rw [hnw3] at hv; subst hv; clear ho hg hat hnw3))
        go_ret
        exact ⟨_, rfl, by rw [HT.out, evTok, HNB.out]; exact Grew.ahead HB2.out HGw3.out⟩
      | false =>
        go_enter Try.func30, Try.ntmps30
        go_upto_region 1 with (fail)
        rw [HW1.out]
        obtain ⟨q0, q1, q2, q3, q4, q5, q6, q7⟩ := HX1.out W1 (Below.refl _ _)
        go_wp2_with (first
          | (go_at_call 35; refine (HCM.out W1).mono ?_; rintro e w2 ⟨rfl, hb2⟩; rw [HNB.out]; have HB2 := Lib.hid (HB1.out.trans (hb2.mono HB1.out.size)); have HR2 := Lib.hid (Kd.R_below HR1.out hb2); have HS2 := Lib.hid (Nat.le_trans HS1.out hb2.size); obtain ⟨q0, q1, q2, q3, q4, q5, q6, q7⟩ := HX1.out w2 hb2; clear hb2)
          | ((with_reducible refine gate_dst (N := 25) rfl ?_); refine Kd.R_append kEv (w0 := w2) B rfl (.tmp 20) (.tmp 24) 22 TE _ 64 rfl Try.underlying22 infoEv rfl (by decide) (by decide) (.slice Av xs.length cv) (xs) (⟨2, 0, x.f1⟩) (evCells ⟨2, 0, x.f1⟩) (fun _ => True) (fun _ => False) rfl rfl (ev_M _ _ _) (fun _ h => h.elim) (fun _ _ => trivial) HR2.out (Below.refl _ _) HS2.out HF1.out ?_; intro v3 w3 ho _ hg hat; have HGw3 := Lib.hid (Grew.mk (d := kEv) ho hg hat); obtain ⟨Aw3, cw3, hv⟩ := Kd.R_slice ho; obtain ⟨nw3, hnw3⟩ : ∃ n, (xs ++ ([⟨2, 0, x.f1⟩] : List Ev)).length = n := ⟨_, rfl⟩; rw [hnw3] at hv; subst hv; clear ho hg hat hnw3))
        go_ret
        exact ⟨_, rfl, by rw [HT.out, evTok, HNB.out]; exact Grew.ahead HB2.out HGw3.out⟩
    · have e0 : (x.f0 == 0) = false := beq_eq_false_iff_ne.2 h0
      have HT := Lib.hid (show tells x = evOpen x.f0 :: (tellsL x.f2 ++ [evClose x.f0]) by rw [tells_eq, if_neg h0])
      clear h0
      go_enter Try.func30, Try.ntmps30
      go_upto_region 1 with (fail)
      rw [HW1.out]
      obtain ⟨q0, q1, q2, q3, q4, q5, q6, q7⟩ := HX1.out W1 (Below.refl _ _)
      clear HW1
      go_wp2_with ((with_reducible refine gate_dst (N := 31) rfl ?_); refine Kd.R_append kEv (w0 := W1) B rfl (.tmp 26) (.tmp 30) 22 TE _ 64 rfl Try.underlying22 infoEv rfl (by decide) (by decide) (.slice Av xs.length cv) (xs) (⟨1, x.f0, noTk⟩) (evCells ⟨1, x.f0, noTk⟩) (fun _ => True) (fun _ => False) rfl rfl (ev_M _ _ _) (fun _ h => h.elim) (fun _ _ => trivial) HR1.out (Below.refl _ _) HS1.out HF1.out ?_; intro v3 w3 ho _ hg hat; have HGw3 := Lib.hid (Grew.mk (d := kEv) ho hg hat); obtain ⟨Aw3, cw3, hv⟩ := Kd.R_slice ho; obtain ⟨nw3, hnw3⟩ : ∃ n, (xs ++ ([⟨1, x.f0, noTk⟩] : List Ev)).length = n := ⟨_, rfl⟩; rw [hnw3] at hv; subst hv; clear ho hg hat hnw3)
      have HL0 : Hid (Grew kEv TE B w w3 (.slice Av xs.length cv) (.slice Aw3 nw3 cw3) ((xs ++ [evOpen x.f0]) ++ tellsL (x.f2.take 0)) ∧ w3.heap[w.heap.size]? = some (.cells #[.int .u8 x.f0, .int .u8 x.f1.f0, .string x.f1.f1, .int .i64 x.f1.f2.f0, .int .i64 x.f1.f2.f1, .int .i64 x.f1.f2.f2, .int .i64 x.f1.f3, .slice A x.f2.length c] TN (0, 0))) := Lib.hid ⟨by rw [List.take_zero, tellsL, List.append_nil]; exact Grew.ahead HB1.out HGw3.out, HGw3.out.box HR1.out HBX.out (by decide)⟩
      clear q0 q1 q2 q3 q4 q5 q6 q7
      go_loopw [0, 6] (fun lv iv wr => ∃ (i : Nat) (Al : Option Addr) (n cl : Nat), i ≤ x.f2.length ∧ iv = .int .i64 i ∧ lv = .slice Al n cl ∧ Hid (Grew kEv TE B w wr (.slice Av xs.length cv) (.slice Al n cl) ((xs ++ [evOpen x.f0]) ++ tellsL (x.f2.take i)) ∧ wr.heap[w.heap.size]? = some (.cells #[.int .u8 x.f0, .int .u8 x.f1.f0, .string x.f1.f1, .int .i64 x.f1.f2.f0, .int .i64 x.f1.f2.f1, .int .i64 x.f1.f2.f2, .int .i64 x.f1.f3, .slice A x.f2.length c] TN (0, 0)))) (fun _ iv _ => x.f2.length - (intOf iv).toNat)
      case atStart => exact ⟨0, _, _, _, Nat.zero_le _, rfl, rfl, HL0⟩
      case round =>
        obtain ⟨i, Al, n, cl, hi, rfl, rfl, H⟩ := hrel
        obtain ⟨q0, q1, q2, q3, q4, q5, q6, q7⟩ := nd_box H.out.2 wr (Below.refl _ _)
        have hwr : Below w0.heap.size w0 wr := H.out.1.old HR0.out HBW.out hB
        have HWR := Lib.hid hwr
        by_cases hlt : i < x.f2.length
        · have dlt : decide (i < x.f2.length) = true := decide_eq_true hlt
          obtain ⟨y, hy⟩ : ∃ y, x.f2[i]? = some y := ⟨_, List.getElem?_eq_getElem hlt⟩
          obtain ⟨ad, A1, c1, rfl, hcs, hl1, hC1⟩ := kid_at (Kd.C_below HC.out hwr) i y hlt hy
          obtain ⟨ad', A1', c1', hA', hcs', hl1', hC1'⟩ := kid_at HC.out i y hlt hy
          obtain rfl := Option.some.inj hA'
          have h7 : wr.cell? ⟨(ad.add (i * 8)).block, (ad.add (i * 8)).off + 7, none⟩ = some (.slice A1' y.f2.length c1') := pw_cell_below hwr hcs'.2.2.2.2.2.2.2
          rw [hcs.2.2.2.2.2.2.2] at h7
          injection h7 with h7
          injection h7 with h7 _ h7'
          subst h7 h7'
          have HY := Lib.hid hy
          have hny : nds y ≤ ndsL x.f2 := ndsL_mem (List.mem_of_getElem? hy)
          have hlen2 : ((xs ++ [evOpen x.f0]) ++ tellsL (x.f2.take i)).length + 2 * nds y ≤ 1073741824 := by
            have h1 := HLEN.out
            have h2 := tellsL_len (x.f2.take i)
            have h3 : ndsL (x.f2.take i) + nds y ≤ ndsL x.f2 := by
              have := take_nds (l := x.f2) (i + 1)
              rw [List.take_add_one, hy, ndsL_append] at this
              simpa [ndsL] using this
            rw [nds_eq] at h1
            simp only [List.length_append, List.length_singleton]
            omega
          have HIH := Lib.hid (IH.out y A1 c1 wr (.slice Al n cl) ((xs ++ [evOpen x.f0]) ++ tellsL (x.f2.take i)) (by have := HNN.out.1; rw [nds_eq] at this; omega) hl1 hC1' hwr (Nat.le_trans HBw.out H.out.1.grown.size) H.out.1.row hlen2)
          obtain ⟨k0, k1, k2, k3, k4, k5, k6, k7⟩ := hcs
          have g1 : (0 : Int) ≤ (i : Int) := by omega
          have g2 : (i : Int) < (x.f2.length : Int) := by omega
          clear hwr hy hl1 hC1 hcs' hl1' hC1' hny hlen2
          go_wp2_with (go_at_call 30; refine (HIH.out).mono ?_; rintro e w4 ⟨v4, rfl, hg4⟩; obtain ⟨A4, c4, hv⟩ := Kd.R_slice hg4.row; obtain ⟨n4, hn4⟩ : ∃ n, ((xs ++ [evOpen x.f0]) ++ tellsL (x.f2.take i) ++ tells y).length = n := ⟨_, rfl⟩; rw [hn4] at hv; subst hv; clear hn4; have HG4 := Lib.hid hg4; clear hg4)
          go_roundw
          case rel => exact ⟨i + 1, _, _, _, by omega, by go_num, rfl, Lib.hid ⟨by have := H.out.1.trans HG4.out; rw [take_tells HY.out, ← List.append_assoc]; exact this, HG4.out.box H.out.1.row H.out.2 (by decide)⟩⟩
          case measure => simp [intOf] <;> omega
        · have dlt : decide (i < x.f2.length) = false := decide_eq_false hlt
          obtain rfl : i = x.f2.length := by omega
          have hrr := H.out.1.row
          rw [List.take_length] at hrr
          have HRR := Lib.hid hrr
          have HSS : Hid (B ≤ wr.heap.size) := Lib.hid (Nat.le_trans HBw.out H.out.1.grown.size)
          have HFF : Hid (((xs ++ [evOpen x.f0] ++ tellsL x.f2).length + 1) * 64 ≤ 140737488355328) := Lib.hid (by have h1 := HLEN.out; rw [nds_eq] at h1; have h2 := tellsL_len x.f2; simp only [List.length_append, List.length_singleton]; omega)
          clear hrr
          go_wp2_with ((with_reducible refine gate_dst (N := 51) rfl ?_); refine Kd.R_append kEv (w0 := wr) B rfl (.tmp 46) (.tmp 50) 22 TE _ 64 rfl Try.underlying22 infoEv rfl (by decide) (by decide) (.slice Al n cl) (xs ++ [evOpen x.f0] ++ tellsL x.f2) (⟨3, x.f0, noTk⟩) (evCells ⟨3, x.f0, noTk⟩) (fun _ => True) (fun _ => False) rfl rfl (ev_M _ _ _) (fun _ h => h.elim) (fun _ _ => trivial) HRR.out (Below.refl _ _) HSS.out HFF.out ?_; intro v6 w6 ho _ hg hat; have HGw6 := Lib.hid (Grew.mk (d := kEv) ho hg hat); obtain ⟨Aw6, cw6, hv⟩ := Kd.R_slice ho; obtain ⟨nw6, hnw6⟩ : ∃ n, (xs ++ [evOpen x.f0] ++ tellsL x.f2 ++ ([⟨3, x.f0, noTk⟩] : List Ev)).length = n := ⟨_, rfl⟩; rw [hnw6] at hv; subst hv; clear ho hg hat hnw6)
          go_ret
          refine ⟨_, rfl, ?_⟩
          have := H.out.1.trans HGw6.out
          rw [HT.out, show xs ++ evOpen x.f0 :: (tellsL x.f2 ++ [evClose x.f0]) = xs ++ [evOpen x.f0] ++ tellsL x.f2 ++ [⟨3, x.f0, noTk⟩] by simp [evClose]]
          exact this

set_option maxRecDepth 100000 in
set_option maxHeartbeats 4000000 in
theorem put_any (w0 : World) (B : Nat) (hB : w0.heap.size ≤ B) : ∀ (N : Nat) (x : Nd) (A : Option Addr) (c : Nat) (w : World) (v : Value) (xs : List Tk), nds x ≤ N → x.f2.length ≤ c → Kd.C kNd w0 A x.f2.length x.f2 → Below w0.heap.size w0 w → B ≤ w.heap.size → Kd.R kTk 30 w B (fun _ => True) v xs → xs.length + 2 * nds x ≤ 1073741824 →
    Calls Try.prog 31 #[v, .agg #[.int .u8 x.f0, .int .u8 x.f1.f0, .string x.f1.f1, .int .i64 x.f1.f2.f0, .int .i64 x.f1.f2.f1, .int .i64 x.f1.f2.f2, .int .i64 x.f1.f3, .slice A x.f2.length c]] w fun e w' => ∃ v', e = .returned v' ∧ Grew kTk 30 B w w' v v' (xs ++ toks x) := by
  intro N
  induction N with
  | zero => intro x A c w v xs hN; have := nds_pos x; omega
  | succ N ih =>
    intro x A c w v xs hN hlc hC hbw hBw hR hlen
    obtain ⟨Av, cv, rfl⟩ := Kd.R_slice hR
    have hn : x.f2.length ≤ 536870912 := by rw [nds_eq] at hlen; have := ndsL_len x.f2; omega
    obtain ⟨W1, hW1, h1, hb1, hz1⟩ := nd_new (W := w) (cs := #[.int .u8 x.f0, .int .u8 x.f1.f0, .string x.f1.f1, .int .i64 x.f1.f2.f0, .int .i64 x.f1.f2.f1, .int .i64 x.f1.f2.f2, .int .i64 x.f1.f3, .slice A x.f2.length c])
    have HW1 := Lib.hid hW1
    have HBX := Lib.hid h1
    have HX1 := Lib.hid (nd_box h1)
    have HB1 := Lib.hid hb1
    have HBw := Lib.hid hBw
    have HR0 := Lib.hid hR
    have HR1 := Lib.hid (Kd.R_below hR hb1)
    have HS1 : Hid (B ≤ W1.heap.size) := Lib.hid (Nat.le_trans hBw hb1.size)
    have HC := Lib.hid hC
    have HBW := Lib.hid hbw
    have IH := Lib.hid ih
    have HNN := Lib.hid (And.intro hN hlc)
    have HLEN := Lib.hid hlen
    have HF1 : Hid ((xs.length + 1) * 56 ≤ 140737488355328) := Lib.hid (by have := nds_pos x; omega)
    clear hW1 h1 hb1 hz1 hR hC hbw ih hN hlc hlen hBw
    by_cases h0 : x.f0 = 0
    · have e0 : (x.f0 == 0) = true := by simp [h0]
      have ht : toks x = [x.f1] := by rw [toks_eq, if_pos h0]
      have HT := Lib.hid ht
      clear h0 ht
      go_enter Try.func31, Try.ntmps31
      go_upto_region 1 with (fail)
      rw [HW1.out]
      obtain ⟨q0, q1, q2, q3, q4, q5, q6, q7⟩ := HX1.out W1 (Below.refl _ _)
      go_wp2_with ((with_reducible refine gate_dst (N := 13) rfl ?_); refine Kd.R_append kTk (w0 := W1) B rfl (.tmp 9) (.tmp 12) 48 30 _ 56 rfl Try.underlying48 infoTk rfl (by decide) (by decide) (.slice Av xs.length cv) (xs) (x.f1) (tkCells6 x.f1) (fun _ => True) (fun _ => False) rfl rfl (tk_M _ _ _) (fun _ h => h.elim) (fun _ _ => trivial) HR1.out (Below.refl _ _) HS1.out HF1.out ?_; intro v3 w3 ho _ hg hat; have HGw3 := Lib.hid (Grew.mk (d := kTk) ho hg hat); obtain ⟨Aw3, cw3, hv⟩ := Kd.R_slice ho; obtain ⟨nw3, hnw3⟩ : ∃ n, (xs ++ ([x.f1] : List Tk)).length = n := ⟨_, rfl⟩; rw [hnw3] at hv; subst hv; clear ho hg hat hnw3)
      go_ret
      exact ⟨_, rfl, by rw [HT.out]; exact Grew.ahead HB1.out HGw3.out⟩
    · have e0 : (x.f0 == 0) = false := beq_eq_false_iff_ne.2 h0
      have HT := Lib.hid (show toks x = toksL x.f2 by rw [toks_eq, if_neg h0])
      clear h0
      go_enter Try.func31, Try.ntmps31
      go_upto_region 1 with (fail)
      rw [HW1.out]
      obtain ⟨q0, q1, q2, q3, q4, q5, q6, q7⟩ := HX1.out W1 (Below.refl _ _)
      clear HW1
      go_wp2
      have HL0 : Hid (Grew kTk 30 B w W1 (.slice Av xs.length cv) (.slice Av xs.length cv) (xs ++ toksL (x.f2.take 0)) ∧ W1.heap[w.heap.size]? = some (.cells #[.int .u8 x.f0, .int .u8 x.f1.f0, .string x.f1.f1, .int .i64 x.f1.f2.f0, .int .i64 x.f1.f2.f1, .int .i64 x.f1.f2.f2, .int .i64 x.f1.f3, .slice A x.f2.length c] TN (0, 0))) := Lib.hid ⟨by rw [List.take_zero, toksL, List.append_nil]; exact ⟨HR1.out, ⟨HB1.out.os, HB1.out.tape, HB1.out.output, HB1.out.size, fun k hk _ => HB1.out.block k hk⟩, .inl rfl⟩, HBX.out⟩
      clear q0 q1 q2 q3 q4 q5 q6 q7
      go_loopw [0, 5] (fun lv iv wr => ∃ (i : Nat) (Al : Option Addr) (n cl : Nat), i ≤ x.f2.length ∧ iv = .int .i64 i ∧ lv = .slice Al n cl ∧ Hid (Grew kTk 30 B w wr (.slice Av xs.length cv) (.slice Al n cl) (xs ++ toksL (x.f2.take i)) ∧ wr.heap[w.heap.size]? = some (.cells #[.int .u8 x.f0, .int .u8 x.f1.f0, .string x.f1.f1, .int .i64 x.f1.f2.f0, .int .i64 x.f1.f2.f1, .int .i64 x.f1.f2.f2, .int .i64 x.f1.f3, .slice A x.f2.length c] TN (0, 0)))) (fun _ iv _ => x.f2.length - (intOf iv).toNat)
      case atStart => exact ⟨0, _, _, _, Nat.zero_le _, rfl, rfl, HL0⟩
      case round =>
        obtain ⟨i, Al, n, cl, hi, rfl, rfl, H⟩ := hrel
        obtain ⟨q0, q1, q2, q3, q4, q5, q6, q7⟩ := nd_box H.out.2 wr (Below.refl _ _)
        have hwr : Below w0.heap.size w0 wr := H.out.1.old HR0.out HBW.out hB
        have HWR := Lib.hid hwr
        by_cases hlt : i < x.f2.length
        · have dlt : decide (i < x.f2.length) = true := decide_eq_true hlt
          obtain ⟨y, hy⟩ : ∃ y, x.f2[i]? = some y := ⟨_, List.getElem?_eq_getElem hlt⟩
          obtain ⟨ad, A1, c1, rfl, hcs, hl1, hC1⟩ := kid_at (Kd.C_below HC.out hwr) i y hlt hy
          obtain ⟨ad', A1', c1', hA', hcs', hl1', hC1'⟩ := kid_at HC.out i y hlt hy
          obtain rfl := Option.some.inj hA'
          have h7 : wr.cell? ⟨(ad.add (i * 8)).block, (ad.add (i * 8)).off + 7, none⟩ = some (.slice A1' y.f2.length c1') := pw_cell_below hwr hcs'.2.2.2.2.2.2.2
          rw [hcs.2.2.2.2.2.2.2] at h7
          injection h7 with h7
          injection h7 with h7 _ h7'
          subst h7 h7'
          have HY := Lib.hid hy
          have hny : nds y ≤ ndsL x.f2 := ndsL_mem (List.mem_of_getElem? hy)
          have hlen2 : (xs ++ toksL (x.f2.take i)).length + 2 * nds y ≤ 1073741824 := by
            have h1 := HLEN.out
            have h2 := toksL_len (x.f2.take i)
            have h3 : ndsL (x.f2.take i) + nds y ≤ ndsL x.f2 := by
              have := take_nds (l := x.f2) (i + 1)
              rw [List.take_add_one, hy, ndsL_append] at this
              simpa [ndsL] using this
            rw [nds_eq] at h1
            simp only [List.length_append, List.length_singleton]
            omega
          have HIH := Lib.hid (IH.out y A1 c1 wr (.slice Al n cl) (xs ++ toksL (x.f2.take i)) (by have := HNN.out.1; rw [nds_eq] at this; omega) hl1 hC1' hwr (Nat.le_trans HBw.out H.out.1.grown.size) H.out.1.row hlen2)
          obtain ⟨k0, k1, k2, k3, k4, k5, k6, k7⟩ := hcs
          have g1 : (0 : Int) ≤ (i : Int) := by omega
          have g2 : (i : Int) < (x.f2.length : Int) := by omega
          clear hwr hy hl1 hC1 hcs' hl1' hC1' hny hlen2
          go_wp2_with (go_at_call 31; refine (HIH.out).mono ?_; rintro e w4 ⟨v4, rfl, hg4⟩; obtain ⟨A4, c4, hv⟩ := Kd.R_slice hg4.row; obtain ⟨n4, hn4⟩ : ∃ n, (xs ++ toksL (x.f2.take i) ++ toks y).length = n := ⟨_, rfl⟩; rw [hn4] at hv; subst hv; clear hn4; have HG4 := Lib.hid hg4; clear hg4)
          go_roundw
          case rel => exact ⟨i + 1, _, _, _, by omega, by go_num, rfl, Lib.hid ⟨by have := H.out.1.trans HG4.out; rw [take_toks HY.out, ← List.append_assoc]; exact this, HG4.out.box H.out.1.row H.out.2 (by decide)⟩⟩
          case measure => simp [intOf] <;> omega
        · have dlt : decide (i < x.f2.length) = false := decide_eq_false hlt
          obtain rfl : i = x.f2.length := by omega
          go_wp2
          go_ret
          refine ⟨_, rfl, ?_⟩
          have := H.out.1
          rw [List.take_length] at this
          rw [HT.out]
          exact this
end Go.Proofs.Ytfefldkljbbbpaa
