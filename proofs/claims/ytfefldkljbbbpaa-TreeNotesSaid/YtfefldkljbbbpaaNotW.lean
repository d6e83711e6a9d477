/- TreeNotes: the walk. (Printed by gennot.py.) -/
import Derived.Test.YtfefldkljbbbpaaNotP
import Derived.Test.YtfefldkljbbbpaaAwake
import Derived.BigQuiet
import Derived.Deep.QuietTactic
set_option linter.unusedVariables false
set_option linter.unusedSimpArgs false
namespace Go.Proofs.Ytfefldkljbbbpaa
open Go.RowKit Go.Shelf Go.Proofs.YtfefldkljbbbpaaW.PrintWords Go.Proofs.YtfefldkljbbbpaaW.PrintLast Go.Proofs.YtfefldkljbbbpaaW.PrintMore

set_option maxRecDepth 100000 in
set_option maxHeartbeats 1000000 in
theorem treeNotes_main (x : Nd) (A : Option Addr) (c : Nat) (at0 : Int) (tx : ByteArray) (W : World) (ha0 : -9223372036854775808 ≤ at0) (ha1 : at0 ≤ 9223372036854775807) (hC : Kd.C kNd W A x.f2.length x.f2) (hlc : x.f2.length ≤ c) :
    Calls Try.prog 6 #[.agg #[.int .u8 x.f0, .int .u8 x.f1.f0, .string x.f1.f1, .int .i64 x.f1.f2.f0, .int .i64 x.f1.f2.f1, .int .i64 x.f1.f2.f2, .int .i64 x.f1.f3, .slice A x.f2.length c], .int .i64 at0, .string tx] W fun e w' => e = .returned (.bool true) ∧ Below W.heap.size W w' := by
  have HAW := Lib.hid awake13
  obtain ⟨kw, r, hw, hwr⟩ := weight_all x
  obtain ⟨W1, hW1, hx1, hb1, hz1⟩ := nd_new (W := W) (cs := #[.int .u8 x.f0, .int .u8 x.f1.f0, .string x.f1.f1, .int .i64 x.f1.f2.f0, .int .i64 x.f1.f2.f1, .int .i64 x.f1.f2.f2, .int .i64 x.f1.f3, .slice A x.f2.length c])
  have HBX := Lib.hid (nd_box hx1)
  have HB1 := Lib.hid hb1
  have HC := Lib.hid hC
  have HWR := Lib.hid hwr
  have HLC := Lib.hid hlc
  have HWT := Lib.hid (fun V (hV : Below W.heap.size W V) => PTreeSame.colophonlaw13_weight.calls kw x.f0 x.f1.f0 x.f1.f1 x.f1.f2.f0 x.f1.f2.f1 x.f1.f2.f2 x.f1.f3 A c x.f2 0 0 r V (Kd.C_below hC hV) hlc hw)
  clear hb1 hx1 hz1 hC hlc hw hwr
  go_enter Try.func6, Try.ntmps6
  have hs : r ≤ 16777216 ∨ 16777216 < r := by omega
  rcases hs with hs | hs
  · have d3 : decide (16777216 < r) = false := decide_eq_false (by omega)
    by_cases h0 : x.f0 = 0
    · have e0 : (x.f0 == 0) = true := by simp [h0]
      clear h0
      go_wp2_with (first
        | (go_at_call 8; refine (HAW.out _).mono ?_; rintro e w2 ⟨rfl, hb2⟩; have HB2 := Lib.hid hb2; obtain ⟨q0, q1, q2, q3, q4, q5, q6, q7⟩ := HBX.out w2 hb2; clear hb2)
        | (go_at_call 14; refine (HWT.out _ (HB1.out.trans (HB2.out.mono HB1.out.size))).mono ?_; rintro e w3 ⟨rfl, hb3⟩; have HB3 := Lib.hid (HB2.out.trans (hb3.mono HB2.out.size)); clear hb3 q0 q1 q2 q3 q4 q5 q6 q7; obtain ⟨q0, q1, q2, q3, q4, q5, q6, q7⟩ := HBX.out w3 HB3.out))
      go_ret
      exact ⟨rfl, HB1.out.trans (HB3.out.mono HB1.out.size)⟩
    · have e0 : (x.f0 == 0) = false := beq_eq_false_iff_ne.2 h0
      have H0 := Lib.hid h0
      clear h0
      by_cases hneg : at0 < 0
      · have e4 : decide (at0 < 0) = true := decide_eq_true hneg
        have HN := Lib.hid hneg
        have hxn : x.f2.length ≤ 16777216 := by have := HWR.out hs; rw [nds_eq] at this; have := ndsL_len x.f2; omega
        go_upto_region 9 with (first
          | (go_at_call 8; refine (HAW.out _).mono ?_; rintro e w2 ⟨rfl, hb2⟩; have HB2 := Lib.hid hb2; obtain ⟨q0, q1, q2, q3, q4, q5, q6, q7⟩ := HBX.out w2 hb2; clear hb2)
          | (go_at_call 14; refine (HWT.out _ (HB1.out.trans (HB2.out.mono HB1.out.size))).mono ?_; rintro e w3 ⟨rfl, hb3⟩; have HB3 := Lib.hid (HB2.out.trans (hb3.mono HB2.out.size)); clear hb3 q0 q1 q2 q3 q4 q5 q6 q7; obtain ⟨q0, q1, q2, q3, q4, q5, q6, q7⟩ := HBX.out w3 HB3.out))
        have hk : ∃ k : Nat, -(at0 + 1).tmod ((x.f2.length : Int) + 1) = (k : Int) ∧ k ≤ x.f2.length := by
          have h0 : -(at0 + 1).tmod ((x.f2.length : Int) + 1) = (-(at0 + 1)) % ((x.f2.length : Int) + 1) := by
            rw [← Int.neg_tmod, Int.tmod_eq_emod_of_nonneg (by have := HN.out; omega)]
          have h1 := Int.emod_nonneg (-(at0 + 1)) (b := (x.f2.length : Int) + 1) (by omega)
          have h2 := Int.emod_lt_of_pos (-(at0 + 1)) (b := (x.f2.length : Int) + 1) (by omega)
          exact ⟨((-(at0 + 1)) % ((x.f2.length : Int) + 1)).toNat, by omega, by omega⟩
        obtain ⟨k, hk, hkl⟩ := hk
        rw [hk]
        clear hk
        have hxn : x.f2.length ≤ 16777216 := by have := HWR.out hs; rw [nds_eq] at this; have := ndsL_len x.f2; omega
        obtain ⟨w4, hw4, h4, hb4, hz4⟩ := nd_new (W := w3) (cs := #[.int .u8 x.f0, .int .u8 x.f1.f0, .string x.f1.f1, .int .i64 x.f1.f2.f0, .int .i64 x.f1.f2.f1, .int .i64 x.f1.f2.f2, .int .i64 x.f1.f3, .slice none 0 0])
        rw [hw4]
        have HI0 : Hid (NAt w3 w4 w3.heap.size x.f0 x.f1 [] (.slice none 0 0) []) := Lib.hid ⟨h4, ⟨rfl, .inl ⟨rfl, rfl⟩⟩, Reps.none _ _, hb4, by omega, Nat.le_refl _⟩
        clear hw4 h4 hb4 hz4 q0 q1 q2 q3 q4 q5 q6 q7
        go_wp2
        go_loopw [10] (fun iv wr => ∃ i : Nat, i ≤ x.f2.length + 1 ∧ iv = .int .i64 i ∧ Hid (∃ v cells, NAt w3 wr w3.heap.size x.f0 x.f1 (made k tx x.f2 i) v cells)) (fun iv _ => x.f2.length + 1 - (intOf iv).toNat)
        case atStart => exact ⟨0, Nat.zero_le _, rfl, Lib.hid ⟨_, _, HI0.out⟩⟩
        case round =>
          obtain ⟨i, hi, rfl, HI⟩ := hrel
          obtain ⟨v, cells, hN⟩ := HI.out
          have H := Lib.hid hN
          obtain ⟨q, hq⟩ : ∃ q, (made k tx x.f2 i).length = q := ⟨_, rfl⟩
          have hrow := hN.row
          rw [hq] at hrow
          obtain ⟨A5, c5, rfl⟩ := own_slice hrow
          have HF : Hid ((q + 1) * 88 ≤ 140737488355328) := Lib.hid (by have := made_len k tx x.f2 i; omega)
          have HS : Hid (w3.heap.size + 1 ≤ wr.heap.size) := Lib.hid hN.size
          have HQ := Lib.hid hq
          have HR := Lib.hid hrow
          clear hN hq hrow HI
          obtain ⟨q0, q1, q2, q3, q4, q5, q6, q7⟩ := HBX.out wr (HB3.out.trans (H.out.below.mono HB3.out.size))
          by_cases hle : i ≤ x.f2.length
          · have dle : decide (i ≤ x.f2.length) = true := decide_eq_true hle
            by_cases hik : i = k
            · subst hik
              obtain ⟨-, -, -, -, -, -, -, c7, -⟩ := H.out.cells wr (Below.refl _ _)
              go_upto_region 14 with ((with_reducible refine gate_dst (N := 56) rfl ?_); refine print_append_cells (w0 := wr) (w3.heap.size + 1) rfl (.tmp 51) (.tmp 55) 33 35 _ 8 88 rfl Try.underlying33 infoNd rfl (by decide) (by decide) (.slice A5 q c5) q cells (ndCells 0 ⟨8, tx, ⟨0, 0, 0⟩, 0⟩ (.slice none 0 0)) rfl rfl rfl (ndCells_one _ _ rfl) HR.out (Below.refl _ _) HS.out HF.out ?_; intro v5 w5 ho5 hb5 hg5 hat5; obtain ⟨A6, c6, rfl⟩ := own_slice ho5; obtain ⟨-, -, -, -, -, -, -, c7, f7⟩ := H.out.cells w5 hb5; have hN5 := H.out.push (by rw [HQ.out]; exact ho5) hb5 (tok_K w3 8 tx); have HN5 := Lib.hid hN5; clear ho5 hb5 hg5 hat5 hN5)
              obtain ⟨wq, hwq⟩ : ∃ V, w5.setCell ⟨w3.heap.size, 7, none⟩ (.slice A6 (q + 1) c6) = V := ⟨_, rfl⟩
              obtain ⟨vq, cq, HQN⟩ : ∃ v c, Hid (NAt w3 wq w3.heap.size x.f0 x.f1 (made i tx x.f2 i ++ [tokN 8 tx]) v c) := ⟨_, _, Lib.hid (hwq ▸ HN5.out)⟩
              rw [hwq]
              clear hwq c7 f7 HN5 q0 q1 q2 q3 q4 q5 q6 q7
              obtain ⟨qq, hqq⟩ : ∃ n, (made i tx x.f2 i ++ [tokN 8 tx]).length = n := ⟨_, rfl⟩
              have hrowq := HQN.out.row
              rw [hqq] at hrowq
              obtain ⟨Aq, cq5, rfl⟩ := own_slice hrowq
              have HQQ := Lib.hid hqq
              clear hrowq hqq
              obtain ⟨q0, q1, q2, q3, q4, q5, q6, q7⟩ := HBX.out wq (HB3.out.trans (HQN.out.below.mono HB3.out.size))
              by_cases hlt : i < x.f2.length
              · have dlt : decide (i < x.f2.length) = true := decide_eq_true hlt
                obtain ⟨y, hy⟩ : ∃ y, x.f2[i]? = some y := ⟨_, List.getElem?_eq_getElem hlt⟩
                have HCW := Lib.hid (Kd.C_below HC.out (HB1.out.trans ((HB3.out.trans (HQN.out.below.mono HB3.out.size)).mono HB1.out.size)))
                obtain ⟨ad, A1, c1, hA0, hcs, hl1, hC1⟩ := kid_at HCW.out i y hlt hy
                obtain ⟨k0, k1, k2, k3, k4, k5, k6, k7⟩ := hcs
                subst hA0
                have HY := Lib.hid hy
                have HL1 := Lib.hid hl1
                have hC0 : Kd.C kNd w3 A1 y.f2.length y.f2 := by
                  obtain ⟨ad', A1', c1', hA0', hcs', hl1', hC1'⟩ := kid_at (Kd.C_below HC.out (HB1.out.trans (HB3.out.mono HB1.out.size))) i y hlt hy
                  obtain rfl := Option.some.inj hA0'
                  have h7 : wq.cell? ⟨(ad.add (i * 8)).block, (ad.add (i * 8)).off + 7, none⟩ = some (.slice A1' y.f2.length c1') := pw_cell_below (HQN.out.below) hcs'.2.2.2.2.2.2.2
                  rw [k7] at h7
                  injection h7 with h7
                  injection h7 with h7
                  rw [h7]; exact hC1'
                have HC0 := Lib.hid hC0
                have g1 : (0 : Int) ≤ (i : Int) := by omega
                have g2 : (i : Int) < (x.f2.length : Int) := by omega
                clear hy hl1 hC1 hC0
                go_upto_region 18 with (fail)
                obtain ⟨w7, hw7, h7, hb7, hz7⟩ := nd_new (W := wq) (cs := #[.int .u8 y.f0, .int .u8 y.f1.f0, .string y.f1.f1, .int .i64 y.f1.f2.f0, .int .i64 (wrap64 (y.f1.f2.f1 + 1)), .int .i64 y.f1.f2.f2, .int .i64 (wrap64 (y.f1.f3 + 1)), .slice A1 y.f2.length c1])
                rw [hw7]
                have hN7 := HQN.out.later hb7
                obtain ⟨p0, p1, p2, p3, p4, p5, p6, p7⟩ := nd_box h7 w7 (Below.refl _ _)
                obtain ⟨-, -, -, -, -, -, -, c7, -⟩ := hN7.cells w7 (Below.refl _ _)
                have HN7 := Lib.hid hN7
                have HS7 := Lib.hid hN7.size
                have HR7 : Hid (w7.ownsRow (w3.heap.size + 1) TN 8 (.slice Aq qq cq5) qq cq) := Lib.hid (by have := hN7.row; rw [HQQ.out] at this; exact this)
                have HF7 : Hid ((qq + 1) * 88 ≤ 140737488355328) := Lib.hid (by have := HQQ.out; have := made_len i tx x.f2 i; (try simp only [List.length_append, List.length_singleton] at *); omega)
                clear hw7 h7 hb7 hz7 hN7 q0 q1 q2 q3 q4 q5 q6 q7 k0 k1 k2 k3 k4 k5 k6 k7
                go_wp2_with ((with_reducible refine gate_dst (N := 86) rfl ?_); refine print_append_cells (w0 := w7) (w3.heap.size + 1) rfl (.tmp 83) (.tmp 85) 33 35 _ 8 88 rfl Try.underlying33 infoNd rfl (by decide) (by decide) (.slice Aq qq cq5) qq cq (ndCells y.f0 ⟨y.f1.f0, y.f1.f1, ⟨y.f1.f2.f0, wrap64 (y.f1.f2.f1 + 1), y.f1.f2.f2⟩, wrap64 (y.f1.f3 + 1)⟩ (.slice A1 y.f2.length c1)) rfl rfl rfl (ndCells_one _ _ rfl) HR7.out (Below.refl _ _) HS7.out HF7.out ?_; intro v5 w5 ho5 hb5 hg5 hat5; obtain ⟨A6, c6, rfl⟩ := own_slice ho5; obtain ⟨-, -, -, -, -, -, -, c7, f7⟩ := HN7.out.cells w5 hb5; have hN5 := HN7.out.push (by rw [HQQ.out]; exact ho5) hb5 (PTreeSame.k35_mk w3 (turnK y) HL1.out HC0.out); have HN5 := Lib.hid hN5; clear ho5 hb5 hg5 hat5 hN5)
                go_roundw
                case rel => exact ⟨i + 1, by omega, by go_num, Lib.hid ⟨_, _, by rw [made, HY.out]; rw [if_pos rfl]; exact HN5.out⟩⟩
                case measure => simp [intOf] <;> omega
              · have dlt : decide (i < x.f2.length) = false := decide_eq_false hlt
                obtain rfl : i = x.f2.length := by omega
                go_wp2
                go_roundw
                case rel => exact ⟨x.f2.length + 1, by omega, by go_num, Lib.hid ⟨_, _, by rw [made, if_pos rfl, List.getElem?_eq_none (Nat.le_refl _), List.append_nil]; exact HQN.out⟩⟩
                case measure => simp [intOf] <;> omega
            · have dik : (i == k) = false := beq_eq_false_iff_ne.2 hik
              have dik2 : ((i : Int) == (k : Int)) = false := beq_eq_false_iff_ne.2 (by omega)
              have HIK := Lib.hid hik
              go_upto_region 14 with (fail)
              obtain ⟨wq, rfl⟩ : ∃ V, V = wr := ⟨_, rfl⟩
              obtain ⟨vq, cq, HQN⟩ : ∃ v c, Hid (NAt w3 wq w3.heap.size x.f0 x.f1 (made k tx x.f2 i) v c) := ⟨_, _, H⟩
              clear q0 q1 q2 q3 q4 q5 q6 q7 hik
              obtain ⟨qq, hqq⟩ : ∃ n, (made k tx x.f2 i).length = n := ⟨_, rfl⟩
              have hrowq := HQN.out.row
              rw [hqq] at hrowq
              obtain ⟨Aq, cq5, rfl⟩ := own_slice hrowq
              have HQQ := Lib.hid hqq
              clear hrowq hqq
              obtain ⟨q0, q1, q2, q3, q4, q5, q6, q7⟩ := HBX.out wq (HB3.out.trans (HQN.out.below.mono HB3.out.size))
              by_cases hlt : i < x.f2.length
              · have dlt : decide (i < x.f2.length) = true := decide_eq_true hlt
                obtain ⟨y, hy⟩ : ∃ y, x.f2[i]? = some y := ⟨_, List.getElem?_eq_getElem hlt⟩
                have HCW := Lib.hid (Kd.C_below HC.out (HB1.out.trans ((HB3.out.trans (HQN.out.below.mono HB3.out.size)).mono HB1.out.size)))
                obtain ⟨ad, A1, c1, hA0, hcs, hl1, hC1⟩ := kid_at HCW.out i y hlt hy
                obtain ⟨k0, k1, k2, k3, k4, k5, k6, k7⟩ := hcs
                subst hA0
                have HY := Lib.hid hy
                have HL1 := Lib.hid hl1
                have hC0 : Kd.C kNd w3 A1 y.f2.length y.f2 := by
                  obtain ⟨ad', A1', c1', hA0', hcs', hl1', hC1'⟩ := kid_at (Kd.C_below HC.out (HB1.out.trans (HB3.out.mono HB1.out.size))) i y hlt hy
                  obtain rfl := Option.some.inj hA0'
                  have h7 : wq.cell? ⟨(ad.add (i * 8)).block, (ad.add (i * 8)).off + 7, none⟩ = some (.slice A1' y.f2.length c1') := pw_cell_below (HQN.out.below) hcs'.2.2.2.2.2.2.2
                  rw [k7] at h7
                  injection h7 with h7
                  injection h7 with h7
                  rw [h7]; exact hC1'
                have HC0 := Lib.hid hC0
                have g1 : (0 : Int) ≤ (i : Int) := by omega
                have g2 : (i : Int) < (x.f2.length : Int) := by omega
                clear hy hl1 hC1 hC0
                go_upto_region 18 with (fail)
                obtain ⟨w7, hw7, h7, hb7, hz7⟩ := nd_new (W := wq) (cs := #[.int .u8 y.f0, .int .u8 y.f1.f0, .string y.f1.f1, .int .i64 y.f1.f2.f0, .int .i64 (wrap64 (y.f1.f2.f1 + 1)), .int .i64 y.f1.f2.f2, .int .i64 (wrap64 (y.f1.f3 + 1)), .slice A1 y.f2.length c1])
                rw [hw7]
                have hN7 := HQN.out.later hb7
                obtain ⟨p0, p1, p2, p3, p4, p5, p6, p7⟩ := nd_box h7 w7 (Below.refl _ _)
                obtain ⟨-, -, -, -, -, -, -, c7, -⟩ := hN7.cells w7 (Below.refl _ _)
                have HN7 := Lib.hid hN7
                have HS7 := Lib.hid hN7.size
                have HR7 : Hid (w7.ownsRow (w3.heap.size + 1) TN 8 (.slice Aq qq cq5) qq cq) := Lib.hid (by have := hN7.row; rw [HQQ.out] at this; exact this)
                have HF7 : Hid ((qq + 1) * 88 ≤ 140737488355328) := Lib.hid (by have := HQQ.out; have := made_len k tx x.f2 i; (try simp only [List.length_append, List.length_singleton] at *); omega)
                clear hw7 h7 hb7 hz7 hN7 q0 q1 q2 q3 q4 q5 q6 q7 k0 k1 k2 k3 k4 k5 k6 k7
                go_wp2_with ((with_reducible refine gate_dst (N := 86) rfl ?_); refine print_append_cells (w0 := w7) (w3.heap.size + 1) rfl (.tmp 83) (.tmp 85) 33 35 _ 8 88 rfl Try.underlying33 infoNd rfl (by decide) (by decide) (.slice Aq qq cq5) qq cq (ndCells y.f0 ⟨y.f1.f0, y.f1.f1, ⟨y.f1.f2.f0, wrap64 (y.f1.f2.f1 + 1), y.f1.f2.f2⟩, wrap64 (y.f1.f3 + 1)⟩ (.slice A1 y.f2.length c1)) rfl rfl rfl (ndCells_one _ _ rfl) HR7.out (Below.refl _ _) HS7.out HF7.out ?_; intro v5 w5 ho5 hb5 hg5 hat5; obtain ⟨A6, c6, rfl⟩ := own_slice ho5; obtain ⟨-, -, -, -, -, -, -, c7, f7⟩ := HN7.out.cells w5 hb5; have hN5 := HN7.out.push (by rw [HQQ.out]; exact ho5) hb5 (PTreeSame.k35_mk w3 (turnK y) HL1.out HC0.out); have HN5 := Lib.hid hN5; clear ho5 hb5 hg5 hat5 hN5)
                go_roundw
                case rel => exact ⟨i + 1, by omega, by go_num, Lib.hid ⟨_, _, by rw [made, HY.out]; rw [if_neg HIK.out, List.append_nil]; exact HN5.out⟩⟩
                case measure => simp [intOf] <;> omega
              · have dlt : decide (i < x.f2.length) = false := decide_eq_false hlt
                obtain rfl : i = x.f2.length := by omega
                go_wp2
                go_roundw
                case rel => exact ⟨x.f2.length + 1, by omega, by go_num, Lib.hid ⟨_, _, by rw [made, if_neg HIK.out, List.getElem?_eq_none (Nat.le_refl _), List.append_nil, List.append_nil]; exact HQN.out⟩⟩
                case measure => simp [intOf] <;> omega
          · have dle : decide (i ≤ x.f2.length) = false := decide_eq_false hle
            obtain rfl : i = x.f2.length + 1 := by omega
            obtain ⟨m, hm⟩ : ∃ m, made k tx x.f2 (x.f2.length + 1) = m := ⟨_, rfl⟩
            have hsm := fun j => same_made j k tx x x.f1 H0.out
            have hmn := (made_nds k tx x.f2 (x.f2.length + 1)).1
            rw [List.take_of_length_le (by omega), hm] at hmn
            rw [hm] at hsm
            have hH := H.out
            rw [hm] at hH
            obtain ⟨Am, cm, hAm, hcm, hCm⟩ := hH.C
            injection hAm with e1 e2 e3
            subst e1 e2 e3
            have HM := Lib.hid hH
            have HSM := Lib.hid hsm
            have HMN := Lib.hid hmn
            have HCM := Lib.hid (And.intro hcm hCm)
            clear hm hsm hmn hH hcm hCm H HQ HR HF
            obtain ⟨p0, p1, p2, p3, p4, p5, p6, p7, -⟩ := HM.out.cells wr (Below.refl _ _)
            go_upto_region 20 with (fail)
            obtain ⟨w8, hw8, h8, hb8, hz8⟩ := nd_new (W := wr) (cs := #[.int .u8 x.f0, .int .u8 x.f1.f0, .string x.f1.f1, .int .i64 x.f1.f2.f0, .int .i64 x.f1.f2.f1, .int .i64 x.f1.f2.f2, .int .i64 x.f1.f3, .slice A5 m.length c5])
            rw [hw8]
            have HX8 := Lib.hid h8
            have HB8 := Lib.hid hb8
            have HZ8 := Lib.hid hz8
            have hb38 : Below w3.heap.size w3 w8 := HM.out.below.trans (hb8.mono (by have := HM.out.size; omega))
            have HB38 := Lib.hid hb38
            have hba : Below w8.heap.size w8 (w8.alloc (.cells #[.int .u8 0, .int .u8 1, .string tx, .int .i64 0, .int .i64 0, .int .i64 0, .int .i64 0, .slice none 0 0] TN)) := (Below.refl _ _).alloc (Nat.le_refl _) _
            have HBA := Lib.hid hba
            have HO := Lib.hid (one_R w8 w3 1 tx)
            have HRD := Lib.hid (old_row (Kd.C_below HC.out (HB1.out.trans (HB3.out.mono HB1.out.size))) (hb38.trans (hba.mono hb38.size)))
            have HF9 : Hid (([tokN 1 tx].length + x.f2.length) * 88 ≤ 140737488355328) := Lib.hid (by rw [List.length_singleton]; omega)
            have HG9 : Hid (w8.heap.size ≤ (w8.alloc (.cells #[.int .u8 0, .int .u8 1, .string tx, .int .i64 0, .int .i64 0, .int .i64 0, .int .i64 0, .slice none 0 0] TN)).heap.size) := Lib.hid hba.size
            clear hw8 h8 hb8 hz8 hb38 hba p0 p1 p2 p3 p4 p5 p6 p7 q0 q1 q2 q3 q4 q5 q6 q7
            obtain ⟨q0, q1, q2, q3, q4, q5, q6, q7⟩ := HBX.out w8 (HB3.out.trans (HB38.out.mono HB3.out.size))
            have n1 : W.heap.size < w8.heap.size := World.block_lt_of_cell? w8 _ q7
            go_upto_region 21 with ((with_reducible refine gate_dst (N := 95) rfl ?_); refine Kd.R_append_rows (Kd.fixed kNd w3) (w0 := w8.alloc (.cells #[.int .u8 0, .int .u8 1, .string tx, .int .i64 0, .int .i64 0, .int .i64 0, .int .i64 0, .slice none 0 0] TN)) (Rr := kNd.K w3) w8.heap.size rfl (.tmp 92) (.tmp 94) 33 35 _ 88 rfl Try.underlying33 infoNd rfl (Nat.succ_pos 7) (by decide) (.slice (some ⟨w8.heap.size, 0, none⟩) 1 1) [tokN 1 tx] x.f2 A x.f2.length c (fun _ => True) (fun _ => False) rfl rfl HO.out HRD.out (fun _ _ h => h) (fun _ h => h.elim) (fun _ _ => trivial) (Below.refl _ _) HG9.out HF9.out ?_; intro v9 w10 hR9 hb9 hg9 hat9; obtain ⟨A9, c9, rfl⟩ := Kd.R_slice hR9; have hb89 := HBA.out.trans hb9; have hy9 := (hb89.block wr.heap.size (by have := HZ8.out; omega)).trans HX8.out; have c7 : w10.cell? ⟨wr.heap.size, 7, none⟩ = some (.slice A5 m.length c5) := cell_of_row _ _ _ _ _ _ hy9; have f7 : w10.frozen? ⟨wr.heap.size, 7, none⟩ = false := (by simp [World.frozen?, hy9]); have HR9 := Lib.hid hR9; have HB89 := Lib.hid hb89; have HY9 := Lib.hid hy9; clear hR9 hb9 hg9 hat9 hb89 hy9)
            have hlen9 : ([tokN 1 tx] ++ x.f2).length = x.f2.length + 1 := by simp
            try rw [hlen9]
            obtain ⟨w11, hw11⟩ : ∃ V, w10.setCell ⟨wr.heap.size, 7, none⟩ (.slice A9 (x.f2.length + 1) c9) = V := ⟨_, rfl⟩
            have hb11 : Below wr.heap.size wr w11 := by rw [← hw11]; exact ((HB8.out.trans (HB89.out.mono HB8.out.size))).setCell (p := ⟨wr.heap.size, 7, none⟩) (Nat.le_refl _) _
            have hy11 : w11.heap[wr.heap.size]? = some (.cells #[.int .u8 x.f0, .int .u8 x.f1.f0, .string x.f1.f1, .int .i64 x.f1.f2.f0, .int .i64 x.f1.f2.f1, .int .i64 x.f1.f2.f2, .int .i64 x.f1.f3, .slice A9 (x.f2.length + 1) c9] TN (0, 0)) := by rw [← hw11]; exact Go.heap_setCell_same w10 wr.heap.size 7 _ TN _ HY9.out
            have hcy : x.f2.length + 1 ≤ c9 ∧ Kd.C kNd w11 A9 (x.f2.length + 1) (tokN 1 tx :: x.f2) := by
              have hb3 : Below w3.heap.size w3 w11 := HM.out.below.trans (hb11.mono (by have := HM.out.size; omega))
              obtain ⟨A', c', he, hl, hC⟩ := fixed_C (w' := w11) HR9.out (fun b h1 h2 => by rw [← hw11]; exact Below.heap_setCell w10 _ _ b (by have := HZ8.out; show b ≠ wr.heap.size; omega)) hb3
              rw [hlen9] at he hl hC
              injection he with e1 _ e3
              subst e1 e3
              exact ⟨hl, hC⟩
            have HB3w := Lib.hid (HB3.out.trans ((HM.out.below.trans (hb11.mono (by have := HM.out.size; omega))).mono HB3.out.size))
            have HBR := Lib.hid hb11
            have HBM := Lib.hid (nd_box HM.out.box)
            have HBY := Lib.hid (nd_box hy11)
            have HCY := Lib.hid hcy.2
            have HLY := Lib.hid hcy.1
            have HCX : Hid (Kd.C kNd w11 A5 m.length m) := Lib.hid (Kd.C_below HCM.out.2 hb11)
            have HCN : Hid (Kd.C kNd w11 A x.f2.length x.f2) := Lib.hid (Kd.C_below HC.out (HB1.out.trans (HB3w.out.mono HB1.out.size)))
            rw [hw11]
            clear c7 f7 hlen9 hw11 hb11 hy11 hcy q0 q1 q2 q3 q4 q5 q6 q7
            have hs1 := fun V (hV : Below w11.heap.size w11 V) => same_any (nds x + 1 + 1) V ⟨x.f0, x.f1, m⟩ x A5 A c5 c (by simp only [nds_eq]; have := HMN.out; have := nds_eq x; (try simp only [ndsL, nds, tokN]); omega) HCM.out.1 HLC.out (Kd.C_below HCX.out hV) (Kd.C_below HCN.out hV) (by simp only [nds_eq]; have := HMN.out; have := nds_eq x; have := HWR.out hs; (try simp only [ndsL, nds, tokN]); omega) (by simp only [nds_eq]; have := HMN.out; have := nds_eq x; have := HWR.out hs; (try simp only [ndsL, nds, tokN]); omega)
            rw [(HSM.out _).1] at hs1
            dsimp only [List.length_cons] at hs1
            have HS1 := Lib.hid hs1
            clear hs1
            have hs2 := fun V (hV : Below w11.heap.size w11 V) => same_any (nds x + 1 + 1) V x ⟨x.f0, x.f1, m⟩ A A5 c c5 (by simp only [nds_eq]; have := HMN.out; have := nds_eq x; (try simp only [ndsL, nds, tokN]); omega) HLC.out HCM.out.1 (Kd.C_below HCN.out hV) (Kd.C_below HCX.out hV) (by simp only [nds_eq]; have := HMN.out; have := nds_eq x; have := HWR.out hs; (try simp only [ndsL, nds, tokN]); omega) (by simp only [nds_eq]; have := HMN.out; have := nds_eq x; have := HWR.out hs; (try simp only [ndsL, nds, tokN]); omega)
            rw [(HSM.out _).2] at hs2
            dsimp only [List.length_cons] at hs2
            have HS2 := Lib.hid hs2
            clear hs2
            have hs3 := fun V (hV : Below w11.heap.size w11 V) => same_any (nds x + 1 + 1) V ⟨x.f0, x.f1, tokN 1 tx :: x.f2⟩ x A9 A c9 c (by simp only [nds_eq]; have := HMN.out; have := nds_eq x; (try simp only [ndsL, nds, tokN]); omega) HLY.out HLC.out (Kd.C_below HCY.out hV) (Kd.C_below HCN.out hV) (by simp only [nds_eq]; have := HMN.out; have := nds_eq x; have := HWR.out hs; (try simp only [ndsL, nds, tokN]); omega) (by simp only [nds_eq]; have := HMN.out; have := nds_eq x; have := HWR.out hs; (try simp only [ndsL, nds, tokN]); omega)
            rw [(same_more _ tx x x.f1 H0.out).1] at hs3
            dsimp only [List.length_cons] at hs3
            have HS3 := Lib.hid hs3
            clear hs3
            have hs4 := fun V (hV : Below w11.heap.size w11 V) => same_any (nds x + 1 + 1) V x ⟨x.f0, x.f1, tokN 1 tx :: x.f2⟩ A A9 c c9 (by simp only [nds_eq]; have := HMN.out; have := nds_eq x; (try simp only [ndsL, nds, tokN]); omega) HLC.out HLY.out (Kd.C_below HCN.out hV) (Kd.C_below HCY.out hV) (by simp only [nds_eq]; have := HMN.out; have := nds_eq x; have := HWR.out hs; (try simp only [ndsL, nds, tokN]); omega) (by simp only [nds_eq]; have := HMN.out; have := nds_eq x; have := HWR.out hs; (try simp only [ndsL, nds, tokN]); omega)
            rw [(same_more _ tx x x.f1 H0.out).2] at hs4
            dsimp only [List.length_cons] at hs4
            have HS4 := Lib.hid hs4
            clear hs4
            obtain ⟨q0, q1, q2, q3, q4, q5, q6, q7⟩ := HBX.out w11 (HB3w.out.trans ((Below.refl w11.heap.size w11).mono HB3w.out.size))
            obtain ⟨p0, p1, p2, p3, p4, p5, p6, p7⟩ := HBM.out w11 (HBR.out.trans ((Below.refl w11.heap.size w11).mono HBR.out.size))
            obtain ⟨r0, r1, r2, r3, r4, r5, r6, r7⟩ := HBY.out w11 (Below.refl w11.heap.size w11)
            go_wp2_with (first
              | (go_at_call 17; (with_reducible refine (HS1.out w11 (Below.refl _ _)).mono ?_); rintro e w12 ⟨rfl, hbz⟩; have HB12 := Lib.hid hbz; clear hbz q0 q1 q2 q3 q4 q5 q6 q7 p0 p1 p2 p3 p4 p5 p6 p7 r0 r1 r2 r3 r4 r5 r6 r7; obtain ⟨q0, q1, q2, q3, q4, q5, q6, q7⟩ := HBX.out w12 (HB3w.out.trans (HB12.out.mono HB3w.out.size)); obtain ⟨p0, p1, p2, p3, p4, p5, p6, p7⟩ := HBM.out w12 (HBR.out.trans (HB12.out.mono HBR.out.size)); obtain ⟨r0, r1, r2, r3, r4, r5, r6, r7⟩ := HBY.out w12 HB12.out)
              | (go_at_call 17; (with_reducible refine (HS2.out w12 HB12.out).mono ?_); rintro e w13 ⟨rfl, hbz⟩; have HB13 := Lib.hid (HB12.out.trans (hbz.mono HB12.out.size)); clear hbz q0 q1 q2 q3 q4 q5 q6 q7 p0 p1 p2 p3 p4 p5 p6 p7 r0 r1 r2 r3 r4 r5 r6 r7; obtain ⟨q0, q1, q2, q3, q4, q5, q6, q7⟩ := HBX.out w13 (HB3w.out.trans (HB13.out.mono HB3w.out.size)); obtain ⟨p0, p1, p2, p3, p4, p5, p6, p7⟩ := HBM.out w13 (HBR.out.trans (HB13.out.mono HBR.out.size)); obtain ⟨r0, r1, r2, r3, r4, r5, r6, r7⟩ := HBY.out w13 HB13.out)
              | (go_at_call 17; (with_reducible refine (HS3.out w13 HB13.out).mono ?_); rintro e w14 ⟨rfl, hbz⟩; have HB14 := Lib.hid (HB13.out.trans (hbz.mono HB13.out.size)); clear hbz q0 q1 q2 q3 q4 q5 q6 q7 p0 p1 p2 p3 p4 p5 p6 p7 r0 r1 r2 r3 r4 r5 r6 r7; obtain ⟨q0, q1, q2, q3, q4, q5, q6, q7⟩ := HBX.out w14 (HB3w.out.trans (HB14.out.mono HB3w.out.size)); obtain ⟨p0, p1, p2, p3, p4, p5, p6, p7⟩ := HBM.out w14 (HBR.out.trans (HB14.out.mono HBR.out.size)); obtain ⟨r0, r1, r2, r3, r4, r5, r6, r7⟩ := HBY.out w14 HB14.out)
              | (go_at_call 17; (with_reducible refine (HS4.out w14 HB14.out).mono ?_); rintro e w15 ⟨rfl, hbz⟩; have HB15 := Lib.hid (HB14.out.trans (hbz.mono HB14.out.size)); clear hbz q0 q1 q2 q3 q4 q5 q6 q7 p0 p1 p2 p3 p4 p5 p6 p7 r0 r1 r2 r3 r4 r5 r6 r7))
            go_ret
            exact ⟨rfl, HB1.out.trans ((HB3w.out.trans (HB15.out.mono HB3w.out.size)).mono HB1.out.size)⟩
      · have hxn : x.f2.length ≤ 16777216 := by have := HWR.out hs; rw [nds_eq] at this; have := ndsL_len x.f2; omega
        have e4 : decide (at0 < 0) = false := decide_eq_false hneg
        go_upto_region 9 with (first
          | (go_at_call 8; refine (HAW.out _).mono ?_; rintro e w2 ⟨rfl, hb2⟩; have HB2 := Lib.hid hb2; obtain ⟨q0, q1, q2, q3, q4, q5, q6, q7⟩ := HBX.out w2 hb2; clear hb2)
          | (go_at_call 14; refine (HWT.out _ (HB1.out.trans (HB2.out.mono HB1.out.size))).mono ?_; rintro e w3 ⟨rfl, hb3⟩; have HB3 := Lib.hid (HB2.out.trans (hb3.mono HB2.out.size)); clear hb3 q0 q1 q2 q3 q4 q5 q6 q7; obtain ⟨q0, q1, q2, q3, q4, q5, q6, q7⟩ := HBX.out w3 HB3.out))
        have hk : ∃ k : Nat, at0 % ((x.f2.length : Int) + 1) = (k : Int) ∧ k ≤ x.f2.length := by
          have h1 := Int.emod_nonneg at0 (b := (x.f2.length : Int) + 1) (by omega)
          have h2 := Int.emod_lt_of_pos at0 (b := (x.f2.length : Int) + 1) (by omega)
          exact ⟨(at0 % ((x.f2.length : Int) + 1)).toNat, by omega, by omega⟩
        obtain ⟨k, hk, hkl⟩ := hk
        rw [hk]
        clear hk
        have hxn : x.f2.length ≤ 16777216 := by have := HWR.out hs; rw [nds_eq] at this; have := ndsL_len x.f2; omega
        obtain ⟨w4, hw4, h4, hb4, hz4⟩ := nd_new (W := w3) (cs := #[.int .u8 x.f0, .int .u8 x.f1.f0, .string x.f1.f1, .int .i64 x.f1.f2.f0, .int .i64 x.f1.f2.f1, .int .i64 x.f1.f2.f2, .int .i64 x.f1.f3, .slice none 0 0])
        rw [hw4]
        have HI0 : Hid (NAt w3 w4 w3.heap.size x.f0 x.f1 [] (.slice none 0 0) []) := Lib.hid ⟨h4, ⟨rfl, .inl ⟨rfl, rfl⟩⟩, Reps.none _ _, hb4, by omega, Nat.le_refl _⟩
        clear hw4 h4 hb4 hz4 q0 q1 q2 q3 q4 q5 q6 q7
        go_wp2
        go_loopw [10] (fun iv wr => ∃ i : Nat, i ≤ x.f2.length + 1 ∧ iv = .int .i64 i ∧ Hid (∃ v cells, NAt w3 wr w3.heap.size x.f0 x.f1 (made k tx x.f2 i) v cells)) (fun iv _ => x.f2.length + 1 - (intOf iv).toNat)
        case atStart => exact ⟨0, Nat.zero_le _, rfl, Lib.hid ⟨_, _, HI0.out⟩⟩
        case round =>
          obtain ⟨i, hi, rfl, HI⟩ := hrel
          obtain ⟨v, cells, hN⟩ := HI.out
          have H := Lib.hid hN
          obtain ⟨q, hq⟩ : ∃ q, (made k tx x.f2 i).length = q := ⟨_, rfl⟩
          have hrow := hN.row
          rw [hq] at hrow
          obtain ⟨A5, c5, rfl⟩ := own_slice hrow
          have HF : Hid ((q + 1) * 88 ≤ 140737488355328) := Lib.hid (by have := made_len k tx x.f2 i; omega)
          have HS : Hid (w3.heap.size + 1 ≤ wr.heap.size) := Lib.hid hN.size
          have HQ := Lib.hid hq
          have HR := Lib.hid hrow
          clear hN hq hrow HI
          obtain ⟨q0, q1, q2, q3, q4, q5, q6, q7⟩ := HBX.out wr (HB3.out.trans (H.out.below.mono HB3.out.size))
          by_cases hle : i ≤ x.f2.length
          · have dle : decide (i ≤ x.f2.length) = true := decide_eq_true hle
            by_cases hik : i = k
            · subst hik
              obtain ⟨-, -, -, -, -, -, -, c7, -⟩ := H.out.cells wr (Below.refl _ _)
              go_upto_region 14 with ((with_reducible refine gate_dst (N := 56) rfl ?_); refine print_append_cells (w0 := wr) (w3.heap.size + 1) rfl (.tmp 51) (.tmp 55) 33 35 _ 8 88 rfl Try.underlying33 infoNd rfl (by decide) (by decide) (.slice A5 q c5) q cells (ndCells 0 ⟨8, tx, ⟨0, 0, 0⟩, 0⟩ (.slice none 0 0)) rfl rfl rfl (ndCells_one _ _ rfl) HR.out (Below.refl _ _) HS.out HF.out ?_; intro v5 w5 ho5 hb5 hg5 hat5; obtain ⟨A6, c6, rfl⟩ := own_slice ho5; obtain ⟨-, -, -, -, -, -, -, c7, f7⟩ := H.out.cells w5 hb5; have hN5 := H.out.push (by rw [HQ.out]; exact ho5) hb5 (tok_K w3 8 tx); have HN5 := Lib.hid hN5; clear ho5 hb5 hg5 hat5 hN5)
              obtain ⟨wq, hwq⟩ : ∃ V, w5.setCell ⟨w3.heap.size, 7, none⟩ (.slice A6 (q + 1) c6) = V := ⟨_, rfl⟩
              obtain ⟨vq, cq, HQN⟩ : ∃ v c, Hid (NAt w3 wq w3.heap.size x.f0 x.f1 (made i tx x.f2 i ++ [tokN 8 tx]) v c) := ⟨_, _, Lib.hid (hwq ▸ HN5.out)⟩
              rw [hwq]
              clear hwq c7 f7 HN5 q0 q1 q2 q3 q4 q5 q6 q7
              obtain ⟨qq, hqq⟩ : ∃ n, (made i tx x.f2 i ++ [tokN 8 tx]).length = n := ⟨_, rfl⟩
              have hrowq := HQN.out.row
              rw [hqq] at hrowq
              obtain ⟨Aq, cq5, rfl⟩ := own_slice hrowq
              have HQQ := Lib.hid hqq
              clear hrowq hqq
              obtain ⟨q0, q1, q2, q3, q4, q5, q6, q7⟩ := HBX.out wq (HB3.out.trans (HQN.out.below.mono HB3.out.size))
              by_cases hlt : i < x.f2.length
              · have dlt : decide (i < x.f2.length) = true := decide_eq_true hlt
                obtain ⟨y, hy⟩ : ∃ y, x.f2[i]? = some y := ⟨_, List.getElem?_eq_getElem hlt⟩
                have HCW := Lib.hid (Kd.C_below HC.out (HB1.out.trans ((HB3.out.trans (HQN.out.below.mono HB3.out.size)).mono HB1.out.size)))
                obtain ⟨ad, A1, c1, hA0, hcs, hl1, hC1⟩ := kid_at HCW.out i y hlt hy
                obtain ⟨k0, k1, k2, k3, k4, k5, k6, k7⟩ := hcs
                subst hA0
                have HY := Lib.hid hy
                have HL1 := Lib.hid hl1
                have hC0 : Kd.C kNd w3 A1 y.f2.length y.f2 := by
                  obtain ⟨ad', A1', c1', hA0', hcs', hl1', hC1'⟩ := kid_at (Kd.C_below HC.out (HB1.out.trans (HB3.out.mono HB1.out.size))) i y hlt hy
                  obtain rfl := Option.some.inj hA0'
                  have h7 : wq.cell? ⟨(ad.add (i * 8)).block, (ad.add (i * 8)).off + 7, none⟩ = some (.slice A1' y.f2.length c1') := pw_cell_below (HQN.out.below) hcs'.2.2.2.2.2.2.2
                  rw [k7] at h7
                  injection h7 with h7
                  injection h7 with h7
                  rw [h7]; exact hC1'
                have HC0 := Lib.hid hC0
                have g1 : (0 : Int) ≤ (i : Int) := by omega
                have g2 : (i : Int) < (x.f2.length : Int) := by omega
                clear hy hl1 hC1 hC0
                go_upto_region 18 with (fail)
                obtain ⟨w7, hw7, h7, hb7, hz7⟩ := nd_new (W := wq) (cs := #[.int .u8 y.f0, .int .u8 y.f1.f0, .string y.f1.f1, .int .i64 y.f1.f2.f0, .int .i64 (wrap64 (y.f1.f2.f1 + 1)), .int .i64 y.f1.f2.f2, .int .i64 (wrap64 (y.f1.f3 + 1)), .slice A1 y.f2.length c1])
                rw [hw7]
                have hN7 := HQN.out.later hb7
                obtain ⟨p0, p1, p2, p3, p4, p5, p6, p7⟩ := nd_box h7 w7 (Below.refl _ _)
                obtain ⟨-, -, -, -, -, -, -, c7, -⟩ := hN7.cells w7 (Below.refl _ _)
                have HN7 := Lib.hid hN7
                have HS7 := Lib.hid hN7.size
                have HR7 : Hid (w7.ownsRow (w3.heap.size + 1) TN 8 (.slice Aq qq cq5) qq cq) := Lib.hid (by have := hN7.row; rw [HQQ.out] at this; exact this)
                have HF7 : Hid ((qq + 1) * 88 ≤ 140737488355328) := Lib.hid (by have := HQQ.out; have := made_len i tx x.f2 i; (try simp only [List.length_append, List.length_singleton] at *); omega)
                clear hw7 h7 hb7 hz7 hN7 q0 q1 q2 q3 q4 q5 q6 q7 k0 k1 k2 k3 k4 k5 k6 k7
                go_wp2_with ((with_reducible refine gate_dst (N := 86) rfl ?_); refine print_append_cells (w0 := w7) (w3.heap.size + 1) rfl (.tmp 83) (.tmp 85) 33 35 _ 8 88 rfl Try.underlying33 infoNd rfl (by decide) (by decide) (.slice Aq qq cq5) qq cq (ndCells y.f0 ⟨y.f1.f0, y.f1.f1, ⟨y.f1.f2.f0, wrap64 (y.f1.f2.f1 + 1), y.f1.f2.f2⟩, wrap64 (y.f1.f3 + 1)⟩ (.slice A1 y.f2.length c1)) rfl rfl rfl (ndCells_one _ _ rfl) HR7.out (Below.refl _ _) HS7.out HF7.out ?_; intro v5 w5 ho5 hb5 hg5 hat5; obtain ⟨A6, c6, rfl⟩ := own_slice ho5; obtain ⟨-, -, -, -, -, -, -, c7, f7⟩ := HN7.out.cells w5 hb5; have hN5 := HN7.out.push (by rw [HQQ.out]; exact ho5) hb5 (PTreeSame.k35_mk w3 (turnK y) HL1.out HC0.out); have HN5 := Lib.hid hN5; clear ho5 hb5 hg5 hat5 hN5)
                go_roundw
                case rel => exact ⟨i + 1, by omega, by go_num, Lib.hid ⟨_, _, by rw [made, HY.out]; rw [if_pos rfl]; exact HN5.out⟩⟩
                case measure => simp [intOf] <;> omega
              · have dlt : decide (i < x.f2.length) = false := decide_eq_false hlt
                obtain rfl : i = x.f2.length := by omega
                go_wp2
                go_roundw
                case rel => exact ⟨x.f2.length + 1, by omega, by go_num, Lib.hid ⟨_, _, by rw [made, if_pos rfl, List.getElem?_eq_none (Nat.le_refl _), List.append_nil]; exact HQN.out⟩⟩
                case measure => simp [intOf] <;> omega
            · have dik : (i == k) = false := beq_eq_false_iff_ne.2 hik
              have dik2 : ((i : Int) == (k : Int)) = false := beq_eq_false_iff_ne.2 (by omega)
              have HIK := Lib.hid hik
              go_upto_region 14 with (fail)
              obtain ⟨wq, rfl⟩ : ∃ V, V = wr := ⟨_, rfl⟩
              obtain ⟨vq, cq, HQN⟩ : ∃ v c, Hid (NAt w3 wq w3.heap.size x.f0 x.f1 (made k tx x.f2 i) v c) := ⟨_, _, H⟩
              clear q0 q1 q2 q3 q4 q5 q6 q7 hik
              obtain ⟨qq, hqq⟩ : ∃ n, (made k tx x.f2 i).length = n := ⟨_, rfl⟩
              have hrowq := HQN.out.row
              rw [hqq] at hrowq
              obtain ⟨Aq, cq5, rfl⟩ := own_slice hrowq
              have HQQ := Lib.hid hqq
              clear hrowq hqq
              obtain ⟨q0, q1, q2, q3, q4, q5, q6, q7⟩ := HBX.out wq (HB3.out.trans (HQN.out.below.mono HB3.out.size))
              by_cases hlt : i < x.f2.length
              · have dlt : decide (i < x.f2.length) = true := decide_eq_true hlt
                obtain ⟨y, hy⟩ : ∃ y, x.f2[i]? = some y := ⟨_, List.getElem?_eq_getElem hlt⟩
                have HCW := Lib.hid (Kd.C_below HC.out (HB1.out.trans ((HB3.out.trans (HQN.out.below.mono HB3.out.size)).mono HB1.out.size)))
                obtain ⟨ad, A1, c1, hA0, hcs, hl1, hC1⟩ := kid_at HCW.out i y hlt hy
                obtain ⟨k0, k1, k2, k3, k4, k5, k6, k7⟩ := hcs
                subst hA0
                have HY := Lib.hid hy
                have HL1 := Lib.hid hl1
                have hC0 : Kd.C kNd w3 A1 y.f2.length y.f2 := by
                  obtain ⟨ad', A1', c1', hA0', hcs', hl1', hC1'⟩ := kid_at (Kd.C_below HC.out (HB1.out.trans (HB3.out.mono HB1.out.size))) i y hlt hy
                  obtain rfl := Option.some.inj hA0'
                  have h7 : wq.cell? ⟨(ad.add (i * 8)).block, (ad.add (i * 8)).off + 7, none⟩ = some (.slice A1' y.f2.length c1') := pw_cell_below (HQN.out.below) hcs'.2.2.2.2.2.2.2
                  rw [k7] at h7
                  injection h7 with h7
                  injection h7 with h7
                  rw [h7]; exact hC1'
                have HC0 := Lib.hid hC0
                have g1 : (0 : Int) ≤ (i : Int) := by omega
                have g2 : (i : Int) < (x.f2.length : Int) := by omega
                clear hy hl1 hC1 hC0
                go_upto_region 18 with (fail)
                obtain ⟨w7, hw7, h7, hb7, hz7⟩ := nd_new (W := wq) (cs := #[.int .u8 y.f0, .int .u8 y.f1.f0, .string y.f1.f1, .int .i64 y.f1.f2.f0, .int .i64 (wrap64 (y.f1.f2.f1 + 1)), .int .i64 y.f1.f2.f2, .int .i64 (wrap64 (y.f1.f3 + 1)), .slice A1 y.f2.length c1])
                rw [hw7]
                have hN7 := HQN.out.later hb7
                obtain ⟨p0, p1, p2, p3, p4, p5, p6, p7⟩ := nd_box h7 w7 (Below.refl _ _)
                obtain ⟨-, -, -, -, -, -, -, c7, -⟩ := hN7.cells w7 (Below.refl _ _)
                have HN7 := Lib.hid hN7
                have HS7 := Lib.hid hN7.size
                have HR7 : Hid (w7.ownsRow (w3.heap.size + 1) TN 8 (.slice Aq qq cq5) qq cq) := Lib.hid (by have := hN7.row; rw [HQQ.out] at this; exact this)
                have HF7 : Hid ((qq + 1) * 88 ≤ 140737488355328) := Lib.hid (by have := HQQ.out; have := made_len k tx x.f2 i; (try simp only [List.length_append, List.length_singleton] at *); omega)
                clear hw7 h7 hb7 hz7 hN7 q0 q1 q2 q3 q4 q5 q6 q7 k0 k1 k2 k3 k4 k5 k6 k7
                go_wp2_with ((with_reducible refine gate_dst (N := 86) rfl ?_); refine print_append_cells (w0 := w7) (w3.heap.size + 1) rfl (.tmp 83) (.tmp 85) 33 35 _ 8 88 rfl Try.underlying33 infoNd rfl (by decide) (by decide) (.slice Aq qq cq5) qq cq (ndCells y.f0 ⟨y.f1.f0, y.f1.f1, ⟨y.f1.f2.f0, wrap64 (y.f1.f2.f1 + 1), y.f1.f2.f2⟩, wrap64 (y.f1.f3 + 1)⟩ (.slice A1 y.f2.length c1)) rfl rfl rfl (ndCells_one _ _ rfl) HR7.out (Below.refl _ _) HS7.out HF7.out ?_; intro v5 w5 ho5 hb5 hg5 hat5; obtain ⟨A6, c6, rfl⟩ := own_slice ho5; obtain ⟨-, -, -, -, -, -, -, c7, f7⟩ := HN7.out.cells w5 hb5; have hN5 := HN7.out.push (by rw [HQQ.out]; exact ho5) hb5 (PTreeSame.k35_mk w3 (turnK y) HL1.out HC0.out); have HN5 := Lib.hid hN5; clear ho5 hb5 hg5 hat5 hN5)
                go_roundw
                case rel => exact ⟨i + 1, by omega, by go_num, Lib.hid ⟨_, _, by rw [made, HY.out]; rw [if_neg HIK.out, List.append_nil]; exact HN5.out⟩⟩
                case measure => simp [intOf] <;> omega
              · have dlt : decide (i < x.f2.length) = false := decide_eq_false hlt
                obtain rfl : i = x.f2.length := by omega
                go_wp2
                go_roundw
                case rel => exact ⟨x.f2.length + 1, by omega, by go_num, Lib.hid ⟨_, _, by rw [made, if_neg HIK.out, List.getElem?_eq_none (Nat.le_refl _), List.append_nil, List.append_nil]; exact HQN.out⟩⟩
                case measure => simp [intOf] <;> omega
          · have dle : decide (i ≤ x.f2.length) = false := decide_eq_false hle
            obtain rfl : i = x.f2.length + 1 := by omega
            obtain ⟨m, hm⟩ : ∃ m, made k tx x.f2 (x.f2.length + 1) = m := ⟨_, rfl⟩
            have hsm := fun j => same_made j k tx x x.f1 H0.out
            have hmn := (made_nds k tx x.f2 (x.f2.length + 1)).1
            rw [List.take_of_length_le (by omega), hm] at hmn
            rw [hm] at hsm
            have hH := H.out
            rw [hm] at hH
            obtain ⟨Am, cm, hAm, hcm, hCm⟩ := hH.C
            injection hAm with e1 e2 e3
            subst e1 e2 e3
            have HM := Lib.hid hH
            have HSM := Lib.hid hsm
            have HMN := Lib.hid hmn
            have HCM := Lib.hid (And.intro hcm hCm)
            clear hm hsm hmn hH hcm hCm H HQ HR HF
            obtain ⟨p0, p1, p2, p3, p4, p5, p6, p7, -⟩ := HM.out.cells wr (Below.refl _ _)
            go_upto_region 20 with (fail)
            obtain ⟨w8, hw8, h8, hb8, hz8⟩ := nd_new (W := wr) (cs := #[.int .u8 x.f0, .int .u8 x.f1.f0, .string x.f1.f1, .int .i64 x.f1.f2.f0, .int .i64 x.f1.f2.f1, .int .i64 x.f1.f2.f2, .int .i64 x.f1.f3, .slice A5 m.length c5])
            rw [hw8]
            have HX8 := Lib.hid h8
            have HB8 := Lib.hid hb8
            have HZ8 := Lib.hid hz8
            have hb38 : Below w3.heap.size w3 w8 := HM.out.below.trans (hb8.mono (by have := HM.out.size; omega))
            have HB38 := Lib.hid hb38
            have hba : Below w8.heap.size w8 (w8.alloc (.cells #[.int .u8 0, .int .u8 1, .string tx, .int .i64 0, .int .i64 0, .int .i64 0, .int .i64 0, .slice none 0 0] TN)) := (Below.refl _ _).alloc (Nat.le_refl _) _
            have HBA := Lib.hid hba
            have HO := Lib.hid (one_R w8 w3 1 tx)
            have HRD := Lib.hid (old_row (Kd.C_below HC.out (HB1.out.trans (HB3.out.mono HB1.out.size))) (hb38.trans (hba.mono hb38.size)))
            have HF9 : Hid (([tokN 1 tx].length + x.f2.length) * 88 ≤ 140737488355328) := Lib.hid (by rw [List.length_singleton]; omega)
            have HG9 : Hid (w8.heap.size ≤ (w8.alloc (.cells #[.int .u8 0, .int .u8 1, .string tx, .int .i64 0, .int .i64 0, .int .i64 0, .int .i64 0, .slice none 0 0] TN)).heap.size) := Lib.hid hba.size
            clear hw8 h8 hb8 hz8 hb38 hba p0 p1 p2 p3 p4 p5 p6 p7 q0 q1 q2 q3 q4 q5 q6 q7
            obtain ⟨q0, q1, q2, q3, q4, q5, q6, q7⟩ := HBX.out w8 (HB3.out.trans (HB38.out.mono HB3.out.size))
            have n1 : W.heap.size < w8.heap.size := World.block_lt_of_cell? w8 _ q7
            go_upto_region 21 with ((with_reducible refine gate_dst (N := 95) rfl ?_); refine Kd.R_append_rows (Kd.fixed kNd w3) (w0 := w8.alloc (.cells #[.int .u8 0, .int .u8 1, .string tx, .int .i64 0, .int .i64 0, .int .i64 0, .int .i64 0, .slice none 0 0] TN)) (Rr := kNd.K w3) w8.heap.size rfl (.tmp 92) (.tmp 94) 33 35 _ 88 rfl Try.underlying33 infoNd rfl (Nat.succ_pos 7) (by decide) (.slice (some ⟨w8.heap.size, 0, none⟩) 1 1) [tokN 1 tx] x.f2 A x.f2.length c (fun _ => True) (fun _ => False) rfl rfl HO.out HRD.out (fun _ _ h => h) (fun _ h => h.elim) (fun _ _ => trivial) (Below.refl _ _) HG9.out HF9.out ?_; intro v9 w10 hR9 hb9 hg9 hat9; obtain ⟨A9, c9, rfl⟩ := Kd.R_slice hR9; have hb89 := HBA.out.trans hb9; have hy9 := (hb89.block wr.heap.size (by have := HZ8.out; omega)).trans HX8.out; have c7 : w10.cell? ⟨wr.heap.size, 7, none⟩ = some (.slice A5 m.length c5) := cell_of_row _ _ _ _ _ _ hy9; have f7 : w10.frozen? ⟨wr.heap.size, 7, none⟩ = false := (by simp [World.frozen?, hy9]); have HR9 := Lib.hid hR9; have HB89 := Lib.hid hb89; have HY9 := Lib.hid hy9; clear hR9 hb9 hg9 hat9 hb89 hy9)
            have hlen9 : ([tokN 1 tx] ++ x.f2).length = x.f2.length + 1 := by simp
            try rw [hlen9]
            obtain ⟨w11, hw11⟩ : ∃ V, w10.setCell ⟨wr.heap.size, 7, none⟩ (.slice A9 (x.f2.length + 1) c9) = V := ⟨_, rfl⟩
            have hb11 : Below wr.heap.size wr w11 := by rw [← hw11]; exact ((HB8.out.trans (HB89.out.mono HB8.out.size))).setCell (p := ⟨wr.heap.size, 7, none⟩) (Nat.le_refl _) _
            have hy11 : w11.heap[wr.heap.size]? = some (.cells #[.int .u8 x.f0, .int .u8 x.f1.f0, .string x.f1.f1, .int .i64 x.f1.f2.f0, .int .i64 x.f1.f2.f1, .int .i64 x.f1.f2.f2, .int .i64 x.f1.f3, .slice A9 (x.f2.length + 1) c9] TN (0, 0)) := by rw [← hw11]; exact Go.heap_setCell_same w10 wr.heap.size 7 _ TN _ HY9.out
            have hcy : x.f2.length + 1 ≤ c9 ∧ Kd.C kNd w11 A9 (x.f2.length + 1) (tokN 1 tx :: x.f2) := by
              have hb3 : Below w3.heap.size w3 w11 := HM.out.below.trans (hb11.mono (by have := HM.out.size; omega))
              obtain ⟨A', c', he, hl, hC⟩ := fixed_C (w' := w11) HR9.out (fun b h1 h2 => by rw [← hw11]; exact Below.heap_setCell w10 _ _ b (by have := HZ8.out; show b ≠ wr.heap.size; omega)) hb3
              rw [hlen9] at he hl hC
              injection he with e1 _ e3
              subst e1 e3
              exact ⟨hl, hC⟩
            have HB3w := Lib.hid (HB3.out.trans ((HM.out.below.trans (hb11.mono (by have := HM.out.size; omega))).mono HB3.out.size))
            have HBR := Lib.hid hb11
            have HBM := Lib.hid (nd_box HM.out.box)
            have HBY := Lib.hid (nd_box hy11)
            have HCY := Lib.hid hcy.2
            have HLY := Lib.hid hcy.1
            have HCX : Hid (Kd.C kNd w11 A5 m.length m) := Lib.hid (Kd.C_below HCM.out.2 hb11)
            have HCN : Hid (Kd.C kNd w11 A x.f2.length x.f2) := Lib.hid (Kd.C_below HC.out (HB1.out.trans (HB3w.out.mono HB1.out.size)))
            rw [hw11]
            clear c7 f7 hlen9 hw11 hb11 hy11 hcy q0 q1 q2 q3 q4 q5 q6 q7
            have hs1 := fun V (hV : Below w11.heap.size w11 V) => same_any (nds x + 1 + 1) V ⟨x.f0, x.f1, m⟩ x A5 A c5 c (by simp only [nds_eq]; have := HMN.out; have := nds_eq x; (try simp only [ndsL, nds, tokN]); omega) HCM.out.1 HLC.out (Kd.C_below HCX.out hV) (Kd.C_below HCN.out hV) (by simp only [nds_eq]; have := HMN.out; have := nds_eq x; have := HWR.out hs; (try simp only [ndsL, nds, tokN]); omega) (by simp only [nds_eq]; have := HMN.out; have := nds_eq x; have := HWR.out hs; (try simp only [ndsL, nds, tokN]); omega)
            rw [(HSM.out _).1] at hs1
            dsimp only [List.length_cons] at hs1
            have HS1 := Lib.hid hs1
            clear hs1
            have hs2 := fun V (hV : Below w11.heap.size w11 V) => same_any (nds x + 1 + 1) V x ⟨x.f0, x.f1, m⟩ A A5 c c5 (by simp only [nds_eq]; have := HMN.out; have := nds_eq x; (try simp only [ndsL, nds, tokN]); omega) HLC.out HCM.out.1 (Kd.C_below HCN.out hV) (Kd.C_below HCX.out hV) (by simp only [nds_eq]; have := HMN.out; have := nds_eq x; have := HWR.out hs; (try simp only [ndsL, nds, tokN]); omega) (by simp only [nds_eq]; have := HMN.out; have := nds_eq x; have := HWR.out hs; (try simp only [ndsL, nds, tokN]); omega)
            rw [(HSM.out _).2] at hs2
            dsimp only [List.length_cons] at hs2
            have HS2 := Lib.hid hs2
            clear hs2
            have hs3 := fun V (hV : Below w11.heap.size w11 V) => same_any (nds x + 1 + 1) V ⟨x.f0, x.f1, tokN 1 tx :: x.f2⟩ x A9 A c9 c (by simp only [nds_eq]; have := HMN.out; have := nds_eq x; (try simp only [ndsL, nds, tokN]); omega) HLY.out HLC.out (Kd.C_below HCY.out hV) (Kd.C_below HCN.out hV) (by simp only [nds_eq]; have := HMN.out; have := nds_eq x; have := HWR.out hs; (try simp only [ndsL, nds, tokN]); omega) (by simp only [nds_eq]; have := HMN.out; have := nds_eq x; have := HWR.out hs; (try simp only [ndsL, nds, tokN]); omega)
            rw [(same_more _ tx x x.f1 H0.out).1] at hs3
            dsimp only [List.length_cons] at hs3
            have HS3 := Lib.hid hs3
            clear hs3
            have hs4 := fun V (hV : Below w11.heap.size w11 V) => same_any (nds x + 1 + 1) V x ⟨x.f0, x.f1, tokN 1 tx :: x.f2⟩ A A9 c c9 (by simp only [nds_eq]; have := HMN.out; have := nds_eq x; (try simp only [ndsL, nds, tokN]); omega) HLC.out HLY.out (Kd.C_below HCN.out hV) (Kd.C_below HCY.out hV) (by simp only [nds_eq]; have := HMN.out; have := nds_eq x; have := HWR.out hs; (try simp only [ndsL, nds, tokN]); omega) (by simp only [nds_eq]; have := HMN.out; have := nds_eq x; have := HWR.out hs; (try simp only [ndsL, nds, tokN]); omega)
            rw [(same_more _ tx x x.f1 H0.out).2] at hs4
            dsimp only [List.length_cons] at hs4
            have HS4 := Lib.hid hs4
            clear hs4
            obtain ⟨q0, q1, q2, q3, q4, q5, q6, q7⟩ := HBX.out w11 (HB3w.out.trans ((Below.refl w11.heap.size w11).mono HB3w.out.size))
            obtain ⟨p0, p1, p2, p3, p4, p5, p6, p7⟩ := HBM.out w11 (HBR.out.trans ((Below.refl w11.heap.size w11).mono HBR.out.size))
            obtain ⟨r0, r1, r2, r3, r4, r5, r6, r7⟩ := HBY.out w11 (Below.refl w11.heap.size w11)
            go_wp2_with (first
              | (go_at_call 17; (with_reducible refine (HS1.out w11 (Below.refl _ _)).mono ?_); rintro e w12 ⟨rfl, hbz⟩; have HB12 := Lib.hid hbz; clear hbz q0 q1 q2 q3 q4 q5 q6 q7 p0 p1 p2 p3 p4 p5 p6 p7 r0 r1 r2 r3 r4 r5 r6 r7; obtain ⟨q0, q1, q2, q3, q4, q5, q6, q7⟩ := HBX.out w12 (HB3w.out.trans (HB12.out.mono HB3w.out.size)); obtain ⟨p0, p1, p2, p3, p4, p5, p6, p7⟩ := HBM.out w12 (HBR.out.trans (HB12.out.mono HBR.out.size)); obtain ⟨r0, r1, r2, r3, r4, r5, r6, r7⟩ := HBY.out w12 HB12.out)
              | (go_at_call 17; (with_reducible refine (HS2.out w12 HB12.out).mono ?_); rintro e w13 ⟨rfl, hbz⟩; have HB13 := Lib.hid (HB12.out.trans (hbz.mono HB12.out.size)); clear hbz q0 q1 q2 q3 q4 q5 q6 q7 p0 p1 p2 p3 p4 p5 p6 p7 r0 r1 r2 r3 r4 r5 r6 r7; obtain ⟨q0, q1, q2, q3, q4, q5, q6, q7⟩ := HBX.out w13 (HB3w.out.trans (HB13.out.mono HB3w.out.size)); obtain ⟨p0, p1, p2, p3, p4, p5, p6, p7⟩ := HBM.out w13 (HBR.out.trans (HB13.out.mono HBR.out.size)); obtain ⟨r0, r1, r2, r3, r4, r5, r6, r7⟩ := HBY.out w13 HB13.out)
              | (go_at_call 17; (with_reducible refine (HS3.out w13 HB13.out).mono ?_); rintro e w14 ⟨rfl, hbz⟩; have HB14 := Lib.hid (HB13.out.trans (hbz.mono HB13.out.size)); clear hbz q0 q1 q2 q3 q4 q5 q6 q7 p0 p1 p2 p3 p4 p5 p6 p7 r0 r1 r2 r3 r4 r5 r6 r7; obtain ⟨q0, q1, q2, q3, q4, q5, q6, q7⟩ := HBX.out w14 (HB3w.out.trans (HB14.out.mono HB3w.out.size)); obtain ⟨p0, p1, p2, p3, p4, p5, p6, p7⟩ := HBM.out w14 (HBR.out.trans (HB14.out.mono HBR.out.size)); obtain ⟨r0, r1, r2, r3, r4, r5, r6, r7⟩ := HBY.out w14 HB14.out)
              | (go_at_call 17; (with_reducible refine (HS4.out w14 HB14.out).mono ?_); rintro e w15 ⟨rfl, hbz⟩; have HB15 := Lib.hid (HB14.out.trans (hbz.mono HB14.out.size)); clear hbz q0 q1 q2 q3 q4 q5 q6 q7 p0 p1 p2 p3 p4 p5 p6 p7 r0 r1 r2 r3 r4 r5 r6 r7))
            go_ret
            exact ⟨rfl, HB1.out.trans ((HB3w.out.trans (HB15.out.mono HB3w.out.size)).mono HB1.out.size)⟩
  · have d3 : decide (16777216 < r) = true := decide_eq_true hs
    go_wp2_with (first
      | (go_at_call 8; refine (HAW.out _).mono ?_; rintro e w2 ⟨rfl, hb2⟩; have HB2 := Lib.hid hb2; obtain ⟨q0, q1, q2, q3, q4, q5, q6, q7⟩ := HBX.out w2 hb2; clear hb2)
      | (go_at_call 14; refine (HWT.out _ (HB1.out.trans (HB2.out.mono HB1.out.size))).mono ?_; rintro e w3 ⟨rfl, hb3⟩; have HB3 := Lib.hid (HB2.out.trans (hb3.mono HB2.out.size)); clear hb3 q0 q1 q2 q3 q4 q5 q6 q7; obtain ⟨q0, q1, q2, q3, q4, q5, q6, q7⟩ := HBX.out w3 HB3.out))
    go_ret
    exact ⟨rfl, HB1.out.trans (HB3.out.mono HB1.out.size)⟩
end Go.Proofs.Ytfefldkljbbbpaa
