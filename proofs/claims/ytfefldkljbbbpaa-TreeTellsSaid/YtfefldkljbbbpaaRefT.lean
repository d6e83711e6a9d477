/- The document's Depth, Events and Toks: the walks. (Printed by gendep.py.) -/
import Derived.Test.YtfefldkljbbbpaaAddW
set_option linter.unusedVariables false
set_option linter.unusedSimpArgs false
namespace Go.Proofs.Ytfefldkljbbbpaa
open Go.RowKit Go.Shelf Go.Proofs.YtfefldkljbbbpaaW.PrintWords Go.Proofs.YtfefldkljbbbpaaW.PrintLast Go.Proofs.YtfefldkljbbbpaaW.PrintMore

set_option maxRecDepth 100000 in
set_option maxHeartbeats 4000000 in
theorem depref_any : ∀ (N : Nat) (x : Nd) (A : Option Addr) (c : Nat) (w : World), nds x ≤ N → nds x ≤ 1073741824 → x.f2.length ≤ c → Kd.C kNd w A x.f2.length x.f2 →
    Calls Try.prog 24 #[.agg #[.int .u8 x.f0, .int .u8 x.f1.f0, .string x.f1.f1, .int .i64 x.f1.f2.f0, .int .i64 x.f1.f2.f1, .int .i64 x.f1.f2.f2, .int .i64 x.f1.f3, .slice A x.f2.length c]] w fun e w' => e = .returned (.int .i64 (dep x)) ∧ Below w.heap.size w w' := by
  intro N
  induction N with
  | zero => intro x A c w hN; have := nds_pos x; omega
  | succ N ih =>
    intro x A c w hN hbig hlc hC
    have hn : x.f2.length ≤ 1073741823 := by rw [nds_eq] at hbig; have := ndsL_len x.f2; omega
    obtain ⟨W1, hW1, h1, hb1, hz1⟩ := nd_new (W := w) (cs := #[.int .u8 x.f0, .int .u8 x.f1.f0, .string x.f1.f1, .int .i64 x.f1.f2.f0, .int .i64 x.f1.f2.f1, .int .i64 x.f1.f2.f2, .int .i64 x.f1.f3, .slice A x.f2.length c])
    have HX1 := Lib.hid (nd_box h1)
    have HB1 := Lib.hid hb1
    have HW1 := Lib.hid hW1
    have HC := Lib.hid hC
    have IH := Lib.hid ih
    have HNN := Lib.hid (And.intro hN hbig)
    clear ih hC hlc hN hbig hW1 h1 hb1 hz1
    by_cases h0 : x.f0 = 0
    · have e0 : (x.f0 == 0) = true := by simp [h0]
      have HT := Lib.hid (show dep x = 0 by rw [dep_eq, if_pos h0])
      clear h0
      go_enter Try.func24, Try.ntmps24
      go_upto_region 1 with (fail)
      rw [HW1.out]
      obtain ⟨q0, q1, q2, q3, q4, q5, q6, q7⟩ := HX1.out W1 (Below.refl _ _)
      go_wp2
      go_ret
      exact ⟨by rw [HT.out]; rfl, HB1.out⟩
    · have e0 : (x.f0 == 0) = false := beq_eq_false_iff_ne.2 h0
      have HT := Lib.hid (show dep x = depL x.f2 + 1 by rw [dep_eq, if_neg h0])
      clear h0
      go_enter Try.func24, Try.ntmps24
      go_upto_region 1 with (fail)
      rw [HW1.out]
      obtain ⟨q0, q1, q2, q3, q4, q5, q6, q7⟩ := HX1.out W1 (Below.refl _ _)
      clear HW1
      go_wp2
      clear q0 q1 q2 q3 q4 q5 q6 q7
      go_loopw [3, 4] (fun mv iv wr => ∃ (i m : Nat), i ≤ x.f2.length ∧ iv = .int .i64 i ∧ mv = .int .i64 m ∧ m ≤ 1073741824 ∧ Hid (m = depL (x.f2.take i) ∧ Below W1.heap.size W1 wr)) (fun _ iv _ => x.f2.length - (intOf iv).toNat)
      case atStart => exact ⟨0, 0, Nat.zero_le _, rfl, rfl, by omega, Lib.hid ⟨by rw [List.take_zero, depL], Below.refl _ _⟩⟩
      case round =>
        obtain ⟨i, m, hi, rfl, rfl, hm, H⟩ := hrel
        obtain ⟨q0, q1, q2, q3, q4, q5, q6, q7⟩ := HX1.out wr H.out.2
        by_cases hlt : i < x.f2.length
        · have dlt : decide (i < x.f2.length) = true := decide_eq_true hlt
          obtain ⟨y, hy⟩ : ∃ y, x.f2[i]? = some y := ⟨_, List.getElem?_eq_getElem hlt⟩
          obtain ⟨ad, A1, c1, rfl, hcs, hl1, hC1⟩ := kid_at (Kd.C_below HC.out (HB1.out.trans (H.out.2.mono HB1.out.size))) i y hlt hy
          have hny : nds y ≤ ndsL x.f2 := ndsL_mem (List.mem_of_getElem? hy)
          have HIH := Lib.hid (IH.out y A1 c1 wr (by have := HNN.out.1; rw [nds_eq] at this; omega) (by have := HNN.out.2; rw [nds_eq] at this; omega) hl1 hC1)
          have HDT := Lib.hid (depL_take x.f2 i y hy)
          have hdy : dep y ≤ 1073741824 := by have := dep_le y; have := HNN.out.2; rw [nds_eq] at this; omega
          obtain ⟨d, hd⟩ : ∃ d, dep y = d := ⟨_, rfl⟩
          have HD := Lib.hid hd
          rw [hd] at hdy HIH
          obtain ⟨k0, k1, k2, k3, k4, k5, k6, k7⟩ := hcs
          have g1 : (0 : Int) ≤ (i : Int) := by omega
          have g2 : (i : Int) < (x.f2.length : Int) := by omega
          clear hy hl1 hC1 hny hd
          by_cases hmd : m < d
          · have d1 : decide ((m : Int) < (d : Int)) = true := decide_eq_true (by omega)
            have d2 : decide (m < d) = true := decide_eq_true (by omega)
            go_wp2_with (go_at_call 24; refine (HIH.out).mono ?_; rintro e w2 ⟨rfl, hb2⟩; have HB2 := Lib.hid hb2; clear hb2)
            go_roundw
            case rel => exact ⟨i + 1, d, by omega, by go_num, rfl, hdy, Lib.hid ⟨by rw [HDT.out, HD.out, ← H.out.1]; omega, H.out.2.trans (HB2.out.mono H.out.2.size)⟩⟩
            case measure => simp [intOf] <;> omega
          · have d1 : decide ((m : Int) < (d : Int)) = false := decide_eq_false (by omega)
            have d2 : decide (m < d) = false := decide_eq_false (by omega)
            go_wp2_with (go_at_call 24; refine (HIH.out).mono ?_; rintro e w2 ⟨rfl, hb2⟩; have HB2 := Lib.hid hb2; clear hb2)
            go_roundw
            case rel => exact ⟨i + 1, m, by omega, by go_num, rfl, hm, Lib.hid ⟨by rw [HDT.out, HD.out, ← H.out.1]; omega, H.out.2.trans (HB2.out.mono H.out.2.size)⟩⟩
            case measure => simp [intOf] <;> omega
        · have dlt : decide (i < x.f2.length) = false := decide_eq_false hlt
          obtain rfl : i = x.f2.length := by omega
          go_wp2
          go_ret
          have hm2 := H.out.1
          rw [List.take_length] at hm2
          exact ⟨by rw [HT.out, ← hm2]; rfl, HB1.out.trans (H.out.2.mono HB1.out.size)⟩

set_option maxRecDepth 100000 in
set_option maxHeartbeats 4000000 in
theorem events_ref (x : Nd) (A : Option Addr) (c : Nat) (w : World) (hbig : 2 * nds x ≤ 1073741824) (hlc : x.f2.length ≤ c) (hC : Kd.C kNd w A x.f2.length x.f2) :
    Calls Try.prog 21 #[.agg #[.int .u8 x.f0, .int .u8 x.f1.f0, .string x.f1.f1, .int .i64 x.f1.f2.f0, .int .i64 x.f1.f2.f1, .int .i64 x.f1.f2.f2, .int .i64 x.f1.f3, .slice A x.f2.length c]] w fun e w' => ∃ v, e = .returned v ∧ Kd.R kEv TE w' w.heap.size (fun _ => True) v (tells x) ∧ Below w.heap.size w w' := by
  obtain ⟨W1, hW1, h1, hb1, hz1⟩ := nd_new (W := w) (cs := #[.int .u8 x.f0, .int .u8 x.f1.f0, .string x.f1.f1, .int .i64 x.f1.f2.f0, .int .i64 x.f1.f2.f1, .int .i64 x.f1.f2.f2, .int .i64 x.f1.f3, .slice A x.f2.length c])
  have HB1 := Lib.hid hb1
  have HA := Lib.hid (add_any w w.heap.size (Nat.le_refl _) (nds x) x A c W1 (.slice none 0 0) [] (Nat.le_refl _) hlc hC hb1 hb1.size (Kd.R_nil kEv TE W1 w.heap.size _) (by simpa using hbig))
  obtain ⟨q0, q1, q2, q3, q4, q5, q6, q7⟩ := nd_box h1 W1 (Below.refl _ _)
  have HW1 := Lib.hid hW1
  clear hW1 h1 hb1 hz1 hC hlc hbig
  go_enter Try.func21, Try.ntmps21
  go_upto_region 1 with (fail)
  rw [HW1.out]
  go_wp2_with (go_at_call 30; refine (HA.out).mono ?_; rintro e w2 ⟨v2, rfl, hg2⟩; have HG2 := Lib.hid hg2; clear hg2)
  go_ret
  exact ⟨_, rfl, by have := HG2.out.row; rwa [List.nil_append] at this, HB1.out.trans ⟨HG2.out.grown.os, HG2.out.grown.tape, HG2.out.grown.output, HG2.out.grown.size, fun k hk => HG2.out.grown.block k (Nat.lt_of_lt_of_le hk HB1.out.size) (fun e => by cases e)⟩⟩

set_option maxRecDepth 100000 in
set_option maxHeartbeats 4000000 in
theorem toks_ref (x : Nd) (A : Option Addr) (c : Nat) (w : World) (hbig : 2 * nds x ≤ 1073741824) (hlc : x.f2.length ≤ c) (hC : Kd.C kNd w A x.f2.length x.f2) :
    Calls Try.prog 22 #[.agg #[.int .u8 x.f0, .int .u8 x.f1.f0, .string x.f1.f1, .int .i64 x.f1.f2.f0, .int .i64 x.f1.f2.f1, .int .i64 x.f1.f2.f2, .int .i64 x.f1.f3, .slice A x.f2.length c]] w fun e w' => ∃ v, e = .returned v ∧ Kd.R kTk 30 w' w.heap.size (fun _ => True) v (toks x) ∧ Below w.heap.size w w' := by
  obtain ⟨W1, hW1, h1, hb1, hz1⟩ := nd_new (W := w) (cs := #[.int .u8 x.f0, .int .u8 x.f1.f0, .string x.f1.f1, .int .i64 x.f1.f2.f0, .int .i64 x.f1.f2.f1, .int .i64 x.f1.f2.f2, .int .i64 x.f1.f3, .slice A x.f2.length c])
  have HB1 := Lib.hid hb1
  have HA := Lib.hid (put_any w w.heap.size (Nat.le_refl _) (nds x) x A c W1 (.slice none 0 0) [] (Nat.le_refl _) hlc hC hb1 hb1.size (Kd.R_nil kTk 30 W1 w.heap.size _) (by simpa using hbig))
  obtain ⟨q0, q1, q2, q3, q4, q5, q6, q7⟩ := nd_box h1 W1 (Below.refl _ _)
  have HW1 := Lib.hid hW1
  clear hW1 h1 hb1 hz1 hC hlc hbig
  go_enter Try.func22, Try.ntmps22
  go_upto_region 1 with (fail)
  rw [HW1.out]
  go_wp2_with (go_at_call 31; refine (HA.out).mono ?_; rintro e w2 ⟨v2, rfl, hg2⟩; have HG2 := Lib.hid hg2; clear hg2)
  go_ret
  exact ⟨_, rfl, by have := HG2.out.row; rwa [List.nil_append] at this, HB1.out.trans ⟨HG2.out.grown.os, HG2.out.grown.tape, HG2.out.grown.output, HG2.out.grown.size, fun k hk => HG2.out.grown.block k (Nat.lt_of_lt_of_le hk HB1.out.size) (fun e => by cases e)⟩⟩
end Go.Proofs.Ytfefldkljbbbpaa
