/- TreeSame: the walk. (Printed by gensm.py.) -/
import Derived.Test.YtfefldkljbbbpaaG7
import Derived.Test.YtfefldkljbbbpaaSameP
import Derived.Test.YtfefldkljbbbpaaAwake
set_option linter.unusedVariables false
set_option linter.unusedSimpArgs false
namespace Go.Proofs.Ytfefldkljbbbpaa
open Go.RowKit Go.Shelf Go.Proofs.YtfefldkljbbbpaaW.PrintWords Go.Proofs.YtfefldkljbbbpaaW.PrintLast Go.Proofs.YtfefldkljbbbpaaW.PrintMore

set_option maxRecDepth 100000 in
set_option maxHeartbeats 2000000 in
theorem treeSame_walk (x : Nd) (A : Option Addr) (c : Nat) (y : Nd) (B : Option Addr) (d : Nat) (W : World) (hlc : x.f2.length ≤ c) (hC : Kd.C kNd W A x.f2.length x.f2) (hld : y.f2.length ≤ d) (hD : Kd.C kNd W B y.f2.length y.f2) :
    Calls Try.prog 4 #[.agg #[.int .u8 x.f0, .int .u8 x.f1.f0, .string x.f1.f1, .int .i64 x.f1.f2.f0, .int .i64 x.f1.f2.f1, .int .i64 x.f1.f2.f2, .int .i64 x.f1.f3, .slice A x.f2.length c], .agg #[.int .u8 y.f0, .int .u8 y.f1.f0, .string y.f1.f1, .int .i64 y.f1.f2.f0, .int .i64 y.f1.f2.f1, .int .i64 y.f1.f2.f2, .int .i64 y.f1.f3, .slice B y.f2.length d]] W fun e w' => e = .returned (.bool true) ∧ Below W.heap.size W w' := by
  have HAW := Lib.hid awake13
  obtain ⟨ka, ra, hwa, hwra⟩ := weight_all x
  obtain ⟨kb, rb, hwb, hwrb⟩ := weight_all y
  obtain ⟨W1, hW1⟩ : ∃ V, (W.alloc (.cells #[.int .u8 x.f0, .int .u8 x.f1.f0, .string x.f1.f1, .int .i64 x.f1.f2.f0, .int .i64 x.f1.f2.f1, .int .i64 x.f1.f2.f2, .int .i64 x.f1.f3, .slice A x.f2.length c] TN)).alloc (.cells #[.int .u8 y.f0, .int .u8 y.f1.f0, .string y.f1.f1, .int .i64 y.f1.f2.f0, .int .i64 y.f1.f2.f1, .int .i64 y.f1.f2.f2, .int .i64 y.f1.f3, .slice B y.f2.length d] TN) = V := ⟨_, rfl⟩
  have hb1 : Below W.heap.size W W1 := by rw [← hW1]; exact ((Below.refl _ W).alloc (Nat.le_refl _) _).alloc (by simp) _
  have h0 : W1.heap[W.heap.size]? = some (.cells #[.int .u8 x.f0, .int .u8 x.f1.f0, .string x.f1.f1, .int .i64 x.f1.f2.f0, .int .i64 x.f1.f2.f1, .int .i64 x.f1.f2.f2, .int .i64 x.f1.f3, .slice A x.f2.length c] TN (0, 0)) := by rw [← hW1]; exact (Below.heap_alloc _ _ _ (by simp)).trans (World.alloc_heap_new W _)
  have h1 : W1.heap[W.heap.size + 1]? = some (.cells #[.int .u8 y.f0, .int .u8 y.f1.f0, .string y.f1.f1, .int .i64 y.f1.f2.f0, .int .i64 y.f1.f2.f1, .int .i64 y.f1.f2.f2, .int .i64 y.f1.f3, .slice B y.f2.length d] TN (0, 0)) := by
    rw [← hW1]
    have := World.alloc_heap_new (W.alloc (.cells #[.int .u8 x.f0, .int .u8 x.f1.f0, .string x.f1.f1, .int .i64 x.f1.f2.f0, .int .i64 x.f1.f2.f1, .int .i64 x.f1.f2.f2, .int .i64 x.f1.f3, .slice A x.f2.length c] TN)) (.cells #[.int .u8 y.f0, .int .u8 y.f1.f0, .string y.f1.f1, .int .i64 y.f1.f2.f0, .int .i64 y.f1.f2.f1, .int .i64 y.f1.f2.f2, .int .i64 y.f1.f3, .slice B y.f2.length d] TN)
    rwa [World.size_alloc] at this
  have HW1 := Lib.hid hW1
  have HA := Lib.hid (nd_box h0)
  have HB := Lib.hid (nd_box h1)
  have HB1 := Lib.hid hb1
  have HRA := Lib.hid hwra
  have HRB := Lib.hid hwrb
  have HLC := Lib.hid (And.intro hlc hld)
  have HCA : Hid (∀ V, Below W1.heap.size W1 V → Kd.C kNd V A x.f2.length x.f2) := Lib.hid (fun V hV => Kd.C_below hC (hb1.trans (hV.mono hb1.size)))
  have HCB : Hid (∀ V, Below W1.heap.size W1 V → Kd.C kNd V B y.f2.length y.f2) := Lib.hid (fun V hV => Kd.C_below hD (hb1.trans (hV.mono hb1.size)))
  have HWA := Lib.hid (fun V (hV : Below W1.heap.size W1 V) => PTreeSame.colophonlaw13_weight.calls ka x.f0 x.f1.f0 x.f1.f1 x.f1.f2.f0 x.f1.f2.f1 x.f1.f2.f2 x.f1.f3 A c x.f2 0 0 ra V (HCA.out V hV) hlc hwa)
  have HWB := Lib.hid (fun V (hV : Below W1.heap.size W1 V) => PTreeSame.colophonlaw13_weight.calls kb y.f0 y.f1.f0 y.f1.f1 y.f1.f2.f0 y.f1.f2.f1 y.f1.f2.f2 y.f1.f3 B d y.f2 0 0 rb V (HCB.out V hV) hld hwb)
  clear hW1 hb1 h0 h1 hwa hwra hwb hwrb hlc hld hC hD
  go_enter Try.func4, Try.ntmps4
  go_upto_region 1 with (fail)
  rw [HW1.out]
  clear HW1
  have hsa : ra ≤ 16777216 ∨ 16777216 < ra := by omega
  rcases hsa with hsa | hsa
  · have da : decide (16777216 < ra) = false := decide_eq_false (by omega)
    have hsb : rb ≤ 16777216 ∨ 16777216 < rb := by omega
    rcases hsb with hsb | hsb
    · have db : decide (16777216 < rb) = false := decide_eq_false (by omega)
      have hna := HRA.out hsa
      have hnb := HRB.out hsb
      have HCX := Lib.hid (fun V (hV : Below W1.heap.size W1 V) => copied_any (nds x) x A c V (Nat.le_refl _) (by omega) HLC.out.1 (HCA.out V hV))
      have HCY := Lib.hid (fun V (hV : Below W1.heap.size W1 V) => copied_any (nds y) y B d V (Nat.le_refl _) (by omega) HLC.out.2 (HCB.out V hV))
      have HN := Lib.hid (And.intro hna hnb)
      obtain ⟨ks, hks⟩ := Go.Proofs.YtfefldkljbbbpaaW.PrintWords.Ev.rounds (same_ref (nds x + nds y) x y (by omega) (by omega) (by omega))
      have HRS := Lib.hid (fun V (hV : Below W1.heap.size W1 V) => PTreeSame.colophonref13_Same.calls ks x.f0 x.f1.f0 x.f1.f1 x.f1.f2.f0 x.f1.f2.f1 x.f1.f2.f2 x.f1.f3 A c x.f2 y.f0 y.f1.f0 y.f1.f1 y.f1.f2.f0 y.f1.f2.f1 y.f1.f2.f2 y.f1.f3 B d y.f2 (sameN (nds x + nds y) x y) V (HCA.out V hV) HLC.out.1 (HCB.out V hV) HLC.out.2 hks)
      clear hks hna hnb
      go_upto_region 5 with (first
        | (go_at_call 8; refine (HAW.out _).mono ?_; rintro e w2 ⟨rfl, hb2⟩; have HB2 := Lib.hid hb2; clear hb2; obtain ⟨p0, p1, p2, p3, p4, p5, p6, p7⟩ := HA.out w2 HB2.out; obtain ⟨q0, q1, q2, q3, q4, q5, q6, q7⟩ := HB.out w2 HB2.out)
        | (go_at_call 14; (with_reducible refine (HWA.out w2 HB2.out).mono ?_); rintro e w3 ⟨rfl, hb3⟩; have HB3 := Lib.hid (HB2.out.trans (hb3.mono HB2.out.size)); clear hb3 p0 p1 p2 p3 p4 p5 p6 p7 q0 q1 q2 q3 q4 q5 q6 q7; obtain ⟨p0, p1, p2, p3, p4, p5, p6, p7⟩ := HA.out w3 HB3.out; obtain ⟨q0, q1, q2, q3, q4, q5, q6, q7⟩ := HB.out w3 HB3.out)
        | (go_at_call 14; (with_reducible refine (HWB.out w3 HB3.out).mono ?_); rintro e w4 ⟨rfl, hb4⟩; have HB4 := Lib.hid (HB3.out.trans (hb4.mono HB3.out.size)); clear hb4 p0 p1 p2 p3 p4 p5 p6 p7 q0 q1 q2 q3 q4 q5 q6 q7; obtain ⟨p0, p1, p2, p3, p4, p5, p6, p7⟩ := HA.out w4 HB4.out; obtain ⟨q0, q1, q2, q3, q4, q5, q6, q7⟩ := HB.out w4 HB4.out)
        | (go_at_call 15; refine (HCX.out w4 HB4.out).mono ?_; rintro e w5 ⟨g, he, hcop, hb5⟩; have he2 : e = .returned (.agg #[.int .u8 x.f0, .int .u8 x.f1.f0, .string x.f1.f1, .int .i64 x.f1.f2.f0, .int .i64 x.f1.f2.f1, .int .i64 x.f1.f2.f2, .int .i64 x.f1.f3, .slice (some ⟨g, 0, none⟩) x.f2.length (x.f2.length + 1)]) := he; clear he; subst he2; have HK5 := Lib.hid hcop; have HB5 := Lib.hid (HB4.out.trans (hb5.mono HB4.out.size)); clear hcop hb5 p0 p1 p2 p3 p4 p5 p6 p7 q0 q1 q2 q3 q4 q5 q6 q7))
      obtain ⟨w6, hw6, h6, hb6, hz6⟩ := nd_new (W := w5) (cs := #[.int .u8 x.f0, .int .u8 x.f1.f0, .string x.f1.f1, .int .i64 x.f1.f2.f0, .int .i64 x.f1.f2.f1, .int .i64 x.f1.f2.f2, .int .i64 x.f1.f3, .slice (some ⟨g, 0, none⟩) x.f2.length (x.f2.length + 1)])
      rw [hw6]
      have HX6 := Lib.hid (nd_box h6)
      have HB6 := Lib.hid (HB5.out.trans (hb6.mono HB5.out.size))
      have HK6 := Lib.hid (cop_below HK5.out hb6)
      clear hw6 h6 hb6 hz6
      obtain ⟨q0, q1, q2, q3, q4, q5, q6, q7⟩ := HB.out w6 HB6.out
      go_upto_region 6 with (go_at_call 15; refine (HCY.out w6 HB6.out).mono ?_; rintro e w7 ⟨g2, he, hcop, hb7⟩; have he2 : e = .returned (.agg #[.int .u8 y.f0, .int .u8 y.f1.f0, .string y.f1.f1, .int .i64 y.f1.f2.f0, .int .i64 y.f1.f2.f1, .int .i64 y.f1.f2.f2, .int .i64 y.f1.f3, .slice (some ⟨g2, 0, none⟩) y.f2.length (y.f2.length + 1)]) := he; clear he; subst he2; have HY7 := Lib.hid hcop; have HB7 := Lib.hid hb7; clear hcop hb7 q0 q1 q2 q3 q4 q5 q6 q7)
      obtain ⟨w8, hw8, h8, hb8, hz8⟩ := nd_new (W := w7) (cs := #[.int .u8 y.f0, .int .u8 y.f1.f0, .string y.f1.f1, .int .i64 y.f1.f2.f0, .int .i64 y.f1.f2.f1, .int .i64 y.f1.f2.f2, .int .i64 y.f1.f3, .slice (some ⟨g2, 0, none⟩) y.f2.length (y.f2.length + 1)])
      rw [hw8]
      have HB68 := Lib.hid (HB7.out.trans (hb8.mono HB7.out.size))
      have HX8 : Hid (∀ V, Below w8.heap.size w8 V → _) := Lib.hid (fun V hV => HX6.out V (HB68.out.trans (hV.mono HB68.out.size)))
      have HY8 := Lib.hid (nd_box h8)
      have HB8 := Lib.hid (HB6.out.trans (HB68.out.mono HB6.out.size))
      have HA8 : Hid (∀ V, Below w8.heap.size w8 V → _) := Lib.hid (fun V hV => HA.out V (HB8.out.trans (hV.mono HB8.out.size)))
      have HBB8 : Hid (∀ V, Below w8.heap.size w8 V → _) := Lib.hid (fun V hV => HB.out V (HB8.out.trans (hV.mono HB8.out.size)))
      have HKX := Lib.hid (cop_below HK6.out HB68.out)
      have HKY := Lib.hid (cop_below HY7.out hb8)
      clear hw8 h8 hb8 hz8
      have hCx : ∀ V, Below w8.heap.size w8 V → Kd.C kNd V (some ⟨g, 0, none⟩) x.f2.length x.f2 := fun V hV => by
        obtain ⟨g', he, hr⟩ := cop_C HKX.out
        obtain rfl : g = g' := by simp [ndCells] at he; exact he
        exact Kd.C_below hr hV
      have hCy : ∀ V, Below w8.heap.size w8 V → Kd.C kNd V (some ⟨g2, 0, none⟩) y.f2.length y.f2 := fun V hV => by
        obtain ⟨g', he, hr⟩ := cop_C HKY.out
        obtain rfl : g2 = g' := by simp [ndCells] at he; exact he
        exact Kd.C_below hr hV
      have hCa : ∀ V, Below w8.heap.size w8 V → Kd.C kNd V A x.f2.length x.f2 := fun V hV => HCA.out V (HB8.out.trans (hV.mono HB8.out.size))
      have hCb : ∀ V, Below w8.heap.size w8 V → Kd.C kNd V B y.f2.length y.f2 := fun V hV => HCB.out V (HB8.out.trans (hV.mono HB8.out.size))
      have HR8 := Lib.hid (fun V (hV : Below w8.heap.size w8 V) => HRS.out V (HB8.out.trans (hV.mono HB8.out.size)))
      have h12 := fun V (hV : Below w8.heap.size w8 V) => same_any (nds x + nds y) V x y (some ⟨g, 0, none⟩) (some ⟨g2, 0, none⟩) (x.f2.length + 1) (y.f2.length + 1) (by omega) (Nat.le_succ _) (Nat.le_succ _) (hCx V hV) (hCy V hV) (by have := HN.out; omega) (by have := HN.out; omega)
      have h21 := fun V (hV : Below w8.heap.size w8 V) => same_any (nds x + nds y) V y x (some ⟨g2, 0, none⟩) (some ⟨g, 0, none⟩) (y.f2.length + 1) (x.f2.length + 1) (by omega) (Nat.le_succ _) (Nat.le_succ _) (hCy V hV) (hCx V hV) (by have := HN.out; omega) (by have := HN.out; omega)
      rw [sameN_symm] at h21
      have h11 := fun V (hV : Below w8.heap.size w8 V) => same_any (nds x + nds y) V x x (some ⟨g, 0, none⟩) (some ⟨g, 0, none⟩) (x.f2.length + 1) (x.f2.length + 1) (by omega) (Nat.le_succ _) (Nat.le_succ _) (hCx V hV) (hCx V hV) (by have := HN.out; omega) (by have := HN.out; omega)
      rw [sameN_refl] at h11
      have hk1 := fun V (hV : Below w8.heap.size w8 V) => kept_any (nds x) x A c g _ V (Nat.le_refl _) (by have := HN.out; omega) HLC.out.1 (hCa V hV) (cop_below HKX.out hV)
      have hk2 := fun V (hV : Below w8.heap.size w8 V) => kept_any (nds y) y B d g2 _ V (Nat.le_refl _) (by have := HN.out; omega) HLC.out.2 (hCb V hV) (cop_below HKY.out hV)
      obtain ⟨s, hs⟩ : ∃ s, sameN (nds x + nds y) x y = s := ⟨_, rfl⟩
      have hr8 := HR8.out
      rw [hs] at h12 h21 hr8
      have H12 := Lib.hid h12
      have H21 := Lib.hid h21
      have H11 := Lib.hid h11
      have HK1 := Lib.hid hk1
      have HK2 := Lib.hid hk2
      have HRR := Lib.hid hr8
      clear hs h12 h21 h11 hk1 hk2 hCx hCy hCa hCb HR8 hr8
      obtain ⟨p0, p1, p2, p3, p4, p5, p6, p7⟩ := HA8.out w8 (Below.refl _ _)
      obtain ⟨q0, q1, q2, q3, q4, q5, q6, q7⟩ := HBB8.out w8 (Below.refl _ _)
      obtain ⟨r0, r1, r2, r3, r4, r5, r6, r7⟩ := HX8.out w8 (Below.refl _ _)
      obtain ⟨s0, s1, s2, s3, s4, s5, s6, s7⟩ := HY8.out w8 (Below.refl _ _)
      have hss : (s == s) = true := by simp
      go_wp2_with (first
        | (go_at_call 16; (with_reducible refine (HRR.out w8 (Below.refl _ _)).mono ?_); rintro e w9 ⟨rfl, hbz⟩; have HB9 := Lib.hid hbz; clear hbz p0 p1 p2 p3 p4 p5 p6 p7 q0 q1 q2 q3 q4 q5 q6 q7 r0 r1 r2 r3 r4 r5 r6 r7 s0 s1 s2 s3 s4 s5 s6 s7; obtain ⟨p0, p1, p2, p3, p4, p5, p6, p7⟩ := HA8.out w9 HB9.out; obtain ⟨q0, q1, q2, q3, q4, q5, q6, q7⟩ := HBB8.out w9 HB9.out; obtain ⟨r0, r1, r2, r3, r4, r5, r6, r7⟩ := HX8.out w9 HB9.out; obtain ⟨s0, s1, s2, s3, s4, s5, s6, s7⟩ := HY8.out w9 HB9.out)
        | (go_at_call 17; (with_reducible refine (H12.out w9 HB9.out).mono ?_); rintro e w10 ⟨rfl, hbz⟩; have HB10 := Lib.hid (HB9.out.trans (hbz.mono HB9.out.size)); clear hbz p0 p1 p2 p3 p4 p5 p6 p7 q0 q1 q2 q3 q4 q5 q6 q7 r0 r1 r2 r3 r4 r5 r6 r7 s0 s1 s2 s3 s4 s5 s6 s7; obtain ⟨p0, p1, p2, p3, p4, p5, p6, p7⟩ := HA8.out w10 HB10.out; obtain ⟨q0, q1, q2, q3, q4, q5, q6, q7⟩ := HBB8.out w10 HB10.out; obtain ⟨r0, r1, r2, r3, r4, r5, r6, r7⟩ := HX8.out w10 HB10.out; obtain ⟨s0, s1, s2, s3, s4, s5, s6, s7⟩ := HY8.out w10 HB10.out)
        | (go_at_call 17; (with_reducible refine (H21.out w10 HB10.out).mono ?_); rintro e w11 ⟨rfl, hbz⟩; have HB11 := Lib.hid (HB10.out.trans (hbz.mono HB10.out.size)); clear hbz p0 p1 p2 p3 p4 p5 p6 p7 q0 q1 q2 q3 q4 q5 q6 q7 r0 r1 r2 r3 r4 r5 r6 r7 s0 s1 s2 s3 s4 s5 s6 s7; obtain ⟨p0, p1, p2, p3, p4, p5, p6, p7⟩ := HA8.out w11 HB11.out; obtain ⟨q0, q1, q2, q3, q4, q5, q6, q7⟩ := HBB8.out w11 HB11.out; obtain ⟨r0, r1, r2, r3, r4, r5, r6, r7⟩ := HX8.out w11 HB11.out; obtain ⟨s0, s1, s2, s3, s4, s5, s6, s7⟩ := HY8.out w11 HB11.out)
        | (go_at_call 17; (with_reducible refine (H11.out w11 HB11.out).mono ?_); rintro e w12 ⟨rfl, hbz⟩; have HB12 := Lib.hid (HB11.out.trans (hbz.mono HB11.out.size)); clear hbz p0 p1 p2 p3 p4 p5 p6 p7 q0 q1 q2 q3 q4 q5 q6 q7 r0 r1 r2 r3 r4 r5 r6 r7 s0 s1 s2 s3 s4 s5 s6 s7; obtain ⟨p0, p1, p2, p3, p4, p5, p6, p7⟩ := HA8.out w12 HB12.out; obtain ⟨q0, q1, q2, q3, q4, q5, q6, q7⟩ := HBB8.out w12 HB12.out; obtain ⟨r0, r1, r2, r3, r4, r5, r6, r7⟩ := HX8.out w12 HB12.out; obtain ⟨s0, s1, s2, s3, s4, s5, s6, s7⟩ := HY8.out w12 HB12.out)
        | (go_at_call 18; (with_reducible refine (HK1.out w12 HB12.out).mono ?_); rintro e w13 ⟨rfl, hbz⟩; have HB13 := Lib.hid (HB12.out.trans (hbz.mono HB12.out.size)); clear hbz p0 p1 p2 p3 p4 p5 p6 p7 q0 q1 q2 q3 q4 q5 q6 q7 r0 r1 r2 r3 r4 r5 r6 r7 s0 s1 s2 s3 s4 s5 s6 s7; obtain ⟨p0, p1, p2, p3, p4, p5, p6, p7⟩ := HA8.out w13 HB13.out; obtain ⟨q0, q1, q2, q3, q4, q5, q6, q7⟩ := HBB8.out w13 HB13.out; obtain ⟨r0, r1, r2, r3, r4, r5, r6, r7⟩ := HX8.out w13 HB13.out; obtain ⟨s0, s1, s2, s3, s4, s5, s6, s7⟩ := HY8.out w13 HB13.out)
        | (go_at_call 18; (with_reducible refine (HK2.out w13 HB13.out).mono ?_); rintro e w14 ⟨rfl, hbz⟩; have HB14 := Lib.hid (HB13.out.trans (hbz.mono HB13.out.size)); clear hbz p0 p1 p2 p3 p4 p5 p6 p7 q0 q1 q2 q3 q4 q5 q6 q7 r0 r1 r2 r3 r4 r5 r6 r7 s0 s1 s2 s3 s4 s5 s6 s7; obtain ⟨p0, p1, p2, p3, p4, p5, p6, p7⟩ := HA8.out w14 HB14.out; obtain ⟨q0, q1, q2, q3, q4, q5, q6, q7⟩ := HBB8.out w14 HB14.out; obtain ⟨r0, r1, r2, r3, r4, r5, r6, r7⟩ := HX8.out w14 HB14.out; obtain ⟨s0, s1, s2, s3, s4, s5, s6, s7⟩ := HY8.out w14 HB14.out))
      go_ret
      exact ⟨rfl, HB1.out.trans ((HB8.out.trans (HB14.out.mono HB8.out.size)).mono HB1.out.size)⟩
    · have db : decide (16777216 < rb) = true := decide_eq_true hsb
      go_wp2_with (first
        | (go_at_call 8; refine (HAW.out _).mono ?_; rintro e w2 ⟨rfl, hb2⟩; have HB2 := Lib.hid hb2; clear hb2; obtain ⟨p0, p1, p2, p3, p4, p5, p6, p7⟩ := HA.out w2 HB2.out; obtain ⟨q0, q1, q2, q3, q4, q5, q6, q7⟩ := HB.out w2 HB2.out)
        | (go_at_call 14; (with_reducible refine (HWA.out w2 HB2.out).mono ?_); rintro e w3 ⟨rfl, hb3⟩; have HB3 := Lib.hid (HB2.out.trans (hb3.mono HB2.out.size)); clear hb3 p0 p1 p2 p3 p4 p5 p6 p7 q0 q1 q2 q3 q4 q5 q6 q7; obtain ⟨p0, p1, p2, p3, p4, p5, p6, p7⟩ := HA.out w3 HB3.out; obtain ⟨q0, q1, q2, q3, q4, q5, q6, q7⟩ := HB.out w3 HB3.out)
        | (go_at_call 14; (with_reducible refine (HWB.out w3 HB3.out).mono ?_); rintro e w4 ⟨rfl, hb4⟩; have HB4 := Lib.hid (HB3.out.trans (hb4.mono HB3.out.size)); clear hb4 p0 p1 p2 p3 p4 p5 p6 p7 q0 q1 q2 q3 q4 q5 q6 q7; obtain ⟨p0, p1, p2, p3, p4, p5, p6, p7⟩ := HA.out w4 HB4.out; obtain ⟨q0, q1, q2, q3, q4, q5, q6, q7⟩ := HB.out w4 HB4.out))
      go_ret
      exact ⟨rfl, HB1.out.trans (HB4.out.mono HB1.out.size)⟩
  · have da : decide (16777216 < ra) = true := decide_eq_true hsa
    go_wp2_with (first
      | (go_at_call 8; refine (HAW.out _).mono ?_; rintro e w2 ⟨rfl, hb2⟩; have HB2 := Lib.hid hb2; clear hb2; obtain ⟨p0, p1, p2, p3, p4, p5, p6, p7⟩ := HA.out w2 HB2.out; obtain ⟨q0, q1, q2, q3, q4, q5, q6, q7⟩ := HB.out w2 HB2.out)
      | (go_at_call 14; (with_reducible refine (HWA.out w2 HB2.out).mono ?_); rintro e w3 ⟨rfl, hb3⟩; have HB3 := Lib.hid (HB2.out.trans (hb3.mono HB2.out.size)); clear hb3 p0 p1 p2 p3 p4 p5 p6 p7 q0 q1 q2 q3 q4 q5 q6 q7; obtain ⟨p0, p1, p2, p3, p4, p5, p6, p7⟩ := HA.out w3 HB3.out; obtain ⟨q0, q1, q2, q3, q4, q5, q6, q7⟩ := HB.out w3 HB3.out))
    go_ret
    exact ⟨rfl, HB1.out.trans (HB3.out.mono HB1.out.size)⟩
end Go.Proofs.Ytfefldkljbbbpaa
