/- What the claim stands on: part Jh. -/
import Derived.Test.YtfefldkljbbbpaaJg
set_option linter.unusedVariables false
set_option linter.unusedSimpArgs false
namespace Go.Proofs.Ytfefldkljbbbpaa
open Go.RowKit Go.Shelf Go.Proofs.YtfefldkljbbbpaaW.PrintWords Go.Proofs.YtfefldkljbbbpaaW.PrintLast Go.Proofs.YtfefldkljbbbpaaW.PrintMore
attribute [local go_sem] Oper.semAt_some
set_option maxRecDepth 100000 in
set_option maxHeartbeats 4000000 in
theorem treeTells_main (x : Nd) (A : Option Addr) (c : Nat) (ea : Int) (W : World) (he0 : -9223372036854775808 ≤ ea) (he1 : ea ≤ 9223372036854775807) (hlc : x.f2.length ≤ c) (hC : Kd.C kNd W A x.f2.length x.f2) :
    Calls Try.prog 7 #[.agg #[.int .u8 x.f0, .int .u8 x.f1.f0, .string x.f1.f1, .int .i64 x.f1.f2.f0, .int .i64 x.f1.f2.f1, .int .i64 x.f1.f2.f2, .int .i64 x.f1.f3, .slice A x.f2.length c], .int .i64 ea] W fun e w' => e = .returned (.bool true) ∧ Below W.heap.size W w' := by
  have HAW := Lib.hid awake13
  obtain ⟨kw, r, hw, hwr⟩ := weight_all x
  obtain ⟨W1, hW1⟩ : ∃ V, ((W.alloc (.cells #[.int .u8 x.f0, .int .u8 x.f1.f0, .string x.f1.f1, .int .i64 x.f1.f2.f0, .int .i64 x.f1.f2.f1, .int .i64 x.f1.f2.f2, .int .i64 x.f1.f3, .slice A x.f2.length c] TN)).alloc (.cells #[.int .i64 ea] 3)).alloc (.cells #[.bool false] 4) = V := ⟨_, rfl⟩
  have hb1 : Below W.heap.size W W1 := by rw [← hW1]; exact (((Below.refl _ W).alloc (Nat.le_refl _) _).alloc (by simp) _).alloc (by simp <;> omega) _
  have old : ∀ {w : World} {o o' : Obj} {k : Nat}, w.heap[k]? = some o' → (w.alloc o).heap[k]? = some o' := fun {w} {o} {o'} {k} h => (Below.heap_alloc w o k (Array.getElem?_eq_some_iff.1 h).1).trans h
  have new : ∀ (w : World) (o : Obj) (k : Nat), k = w.heap.size → (w.alloc o).heap[k]? = some o := fun w o k h => h ▸ World.alloc_heap_new w o
  have h0 : W1.heap[W.heap.size]? = some (.cells #[.int .u8 x.f0, .int .u8 x.f1.f0, .string x.f1.f1, .int .i64 x.f1.f2.f0, .int .i64 x.f1.f2.f1, .int .i64 x.f1.f2.f2, .int .i64 x.f1.f3, .slice A x.f2.length c] TN (0, 0)) := by rw [← hW1]; exact old (old (new W _ _ rfl))
  have h1 : W1.heap[W.heap.size + 1]? = some (.cells #[.int .i64 ea] 3 (0, 0)) := by rw [← hW1]; exact old (new _ _ _ (by simp))
  have h2 : W1.heap[W.heap.size + 1 + 1]? = some (.cells #[.bool false] 4 (0, 0)) := by rw [← hW1]; exact new _ _ _ (by simp)
  have HNB := Lib.hid (nd_box h0)
  have HEB := Lib.hid h1
  have HRB := Lib.hid h2
  have HN0 := Lib.hid h0
  have HB1 := Lib.hid hb1
  have HWR := Lib.hid hwr
  have HLC := Lib.hid hlc
  have HEA := Lib.hid (And.intro he0 he1)
  have HC1 : Hid (∀ V, Below W1.heap.size W1 V → Kd.C kNd V A x.f2.length x.f2) := Lib.hid (fun V hV => Kd.C_below hC (hb1.trans (hV.mono hb1.size)))
  have HC0 : Hid (∀ V, Below W.heap.size W V → Kd.C kNd V A x.f2.length x.f2) := Lib.hid (fun V hV => Kd.C_below hC hV)
  have HWT := Lib.hid (fun V (hV : Below W1.heap.size W1 V) => PTreeSame.colophonlaw13_weight.calls kw x.f0 x.f1.f0 x.f1.f1 x.f1.f2.f0 x.f1.f2.f1 x.f1.f2.f2 x.f1.f3 A c x.f2 0 0 r V (HC1.out V hV) hlc hw)
  obtain ⟨q0, q1, q2, q3, q4, q5, q6, q7⟩ := HNB.out W1 (Below.refl _ _)
  clear hb1 h0 h1 h2 old new hwr hw hlc hC he0 he1
  refine (callsIn_wide (n := 8)).1 ?_
  refine callsIn_of_wp_marks Try.func7 rfl trivial ?_ rfl
  simp only [Try.ntmps7, List.size_toArray, List.length_cons, List.length_nil, Nat.reduceAdd, Nat.reduceSub, Array.replicate_succ, Array.replicate_zero, List.push_toArray, List.append_toArray, List.nil_append, List.cons_append]
  have hs : r ≤ 16777216 ∨ 16777216 < r := by omega
  rcases hs with hs | hs
  · have d3 : decide (16777216 < r) = false := decide_eq_false (by omega)
    have hnx := HWR.out hs
    have HNX := Lib.hid hnx
    have HCP := Lib.hid (fun V (hV : Below W1.heap.size W1 V) => copied_any (nds x) x A c V (Nat.le_refl _) (by omega) HLC.out (HC1.out V hV))
    have HEV := Lib.hid (fun V {g base : Nat} (hK : Cop V base x (ndCells x.f0 x.f1 (.slice (some ⟨g, 0, none⟩) x.f2.length (x.f2.length + 1)))) => by
      obtain ⟨g', he, hr⟩ := cop_C hK
      obtain rfl : g = g' := by simp [ndCells] at he; exact he
      exact events_any x (some ⟨g, 0, none⟩) x.f2.length (x.f2.length + 1) V rfl (Nat.le_succ _) hr (by omega))
    have HER := Lib.hid (fun V (hV : Below W1.heap.size W1 V) => events_ref x A c V (by omega) HLC.out (HC1.out V hV))
    obtain ⟨ks, rs, hks, hrs⟩ := same_f (tells x) (tells x) (by have := tells_len x; omega)
    obtain rfl : rs = true := hrs.2 rfl
    have HSM := Lib.hid (fun V A7 c7 g6 c6 (h1 : (tells x).length ≤ c7) (h2 : Kd.C kEv V A7 (tells x).length (tells x)) (h3 : (tells x).length ≤ c6) (h4 : Kd.C kEv V (some ⟨g6, 0, none⟩) (tells x).length (tells x)) => PTreeSame.colophonlaw13_same.calls ks (some ⟨g6, 0, none⟩) c6 (tells x) A7 c7 (tells x) true V h4 h3 h2 h1 hks)
    have HNP : Hid (0 < (tells x).length) := Lib.hid (tells_pos x)
    have HNL : Hid ((tells x).length ≤ 140737488355) := Lib.hid (by have := tells_len x; omega)
    clear hks hrs hnx
    gi_wp2_with (first
      | (refine ⟨trivial, ?_⟩; gi_at_call 8; refine (callsIn_wide.2 (HAW.out W1)).mono ?_; rintro e w2 ⟨rfl, hb2⟩; have HB2 := Lib.hid hb2; obtain ⟨q0, q1, q2, q3, q4, q5, q6, q7⟩ := HNB.out w2 hb2; clear hb2)
      | (refine ⟨trivial, ?_⟩; gi_at_call 14; refine (callsIn_wide.2 (HWT.out w2 HB2.out)).mono ?_; rintro e w3 ⟨rfl, hb3⟩; have HB3 := Lib.hid (HB2.out.trans (hb3.mono HB2.out.size)); clear hb3 q0 q1 q2 q3 q4 q5 q6 q7; obtain ⟨q0, q1, q2, q3, q4, q5, q6, q7⟩ := HNB.out w3 HB3.out)
      | (refine ⟨trivial, ?_⟩; gi_at_call 15; refine (callsIn_wide.2 (HCP.out w3 HB3.out)).mono ?_; rintro e w4 ⟨g, he, hcop, hb4⟩; have he2 : e = .returned (.agg #[.int .u8 x.f0, .int .u8 x.f1.f0, .string x.f1.f1, .int .i64 x.f1.f2.f0, .int .i64 x.f1.f2.f1, .int .i64 x.f1.f2.f2, .int .i64 x.f1.f3, .slice (some ⟨g, 0, none⟩) x.f2.length (x.f2.length + 1)]) := he; clear he; subst he2; have HB4 := Lib.hid (HB3.out.trans (hb4.mono HB3.out.size)); obtain ⟨w5, hw5, h5, hb5, hz5⟩ := nd_new (W := w4) (cs := #[.int .u8 x.f0, .int .u8 x.f1.f0, .string x.f1.f1, .int .i64 x.f1.f2.f0, .int .i64 x.f1.f2.f1, .int .i64 x.f1.f2.f2, .int .i64 x.f1.f3, .slice (some ⟨g, 0, none⟩) x.f2.length (x.f2.length + 1)]); have HB5 := Lib.hid (HB4.out.trans (hb5.mono HB4.out.size)); have HK5 := Lib.hid (cop_below hcop hb5); have HXB := Lib.hid h5; have HZ5 := Lib.hid hz5; have HB45 := Lib.hid hb5; clear hcop hb4 hb5 h5 hz5 q0 q1 q2 q3 q4 q5 q6 q7; obtain ⟨q0, q1, q2, q3, q4, q5, q6, q7⟩ := HNB.out w5 HB5.out; obtain ⟨p0, p1, p2, p3, p4, p5, p6, p7⟩ := nd_box HXB.out w5 (Below.refl _ _))
      | (refine ⟨trivial, ?_⟩; gi_at_call 19; refine (callsIn_wide.2 (HEV.out w5 HK5.out)).mono ?_; rintro e w6 ⟨v6, rfl, hr6, hb6⟩; have HR6 := Lib.hid hr6; have HB56 := Lib.hid hb6; have HB6 := Lib.hid (HB5.out.trans (hb6.mono HB5.out.size)); obtain ⟨g6, c6, rfl, hf6⟩ := Kd.R_form hr6 (tells_pos x); have HF6 := Lib.hid hf6; clear hr6 hb6 hf6 q0 q1 q2 q3 q4 q5 q6 q7 p0 p1 p2 p3 p4 p5 p6 p7; obtain ⟨q0, q1, q2, q3, q4, q5, q6, q7⟩ := HNB.out w6 HB6.out)
      | (refine ⟨trivial, ?_⟩; gi_at_call 21; refine (callsIn_wide.2 (HER.out w6 HB6.out)).mono ?_; rintro e w7 ⟨v7, rfl, hr7, hb7⟩; have HB67 := Lib.hid hb7; have HB7 := Lib.hid (HB6.out.trans (hb7.mono HB6.out.size)); obtain ⟨A7, c7, rfl, hl7, hc7⟩ := Kd.R_reads hr7; have HC7 := Lib.hid (And.intro hl7 hc7); clear hr7 hb7 hl7 hc7 q0 q1 q2 q3 q4 q5 q6 q7)
      | (refine ⟨trivial, ?_⟩; gi_at_call 13; refine (callsIn_wide.2 (HSM.out w7 A7 c7 g6 c6 HC7.out.1 HC7.out.2 (Kd.R_reads' HR6.out).2.1 (Kd.C_below (Kd.R_reads' HR6.out).2.2 HB67.out))).mono ?_; rintro e w8 ⟨rfl, hd8⟩; have HB78 := Lib.hid hd8.below; have HB8 := Lib.hid (HB7.out.trans (hd8.below.mono HB7.out.size)); clear hd8))
    have HEI : Hid (EInv w8 g6 (tells x).length w8) := Lib.hid (EInv.start HR6.out rfl HNP.out (HB67.out.trans (HB78.out.mono HB67.out.size)))
    have HB58 : Hid (Below w5.heap.size w5 w8) := Lib.hid (HB56.out.trans ((HB67.out.trans (HB78.out.mono HB67.out.size)).mono HB56.out.size))
    refine wpIn_wide.2 ?_
    go_loopw [10] (fun iv wr => ∃ i : Nat, i ≤ (tells x).length ∧ iv = .int .i64 i ∧ Hid (EInv w8 g6 (tells x).length wr)) (fun iv _ => (tells x).length - (intOf iv).toNat)
    case atStart => exact ⟨0, Nat.zero_le _, rfl, HEI⟩
    case round =>
      obtain ⟨i, hi, rfl, H⟩ := hrel
      by_cases hlt : i < (tells x).length
      · have dlt : decide (i < (tells x).length) = true := decide_eq_true hlt
        obtain ⟨cur, hcur, hfit, hnx⟩ := H.out.next hlt
        have HCUR := Lib.hid hcur
        have HFIT := Lib.hid hfit
        have HNX2 := Lib.hid hnx
        have hnl := HNL.out
        have g1 : (0 : Int) ≤ (i : Int) := by omega
        have g2 : (i : Int) < ((tells x).length : Int) := by omega
        clear hcur hfit hnx
        go_wp2_with ((with_reducible refine gate_ (.store 32 (.tmp 46) (.tmp 45)) rfl ?_); refine wl_cells rfl rfl _ _ _ rfl (g := g6) (off := i * 8) (.agg ev77.toArray) ev77 rfl rfl rfl infoE8 ev77_one HCUR.out HFIT.out ?_; intro w3 hw3; have HI3 := Lib.hid (HNX2.out w3 hw3); clear hw3)
        go_roundw
        case rel => exact ⟨i + 1, by omega, by go_num, HI3⟩
        case measure => simp [intOf] <;> omega
      · have dlt : decide (i < (tells x).length) = false := decide_eq_false hlt
        obtain ⟨w9, hw9⟩ : ∃ V, wr = V := ⟨_, rfl⟩
        rw [hw9]
        rw [hw9] at H
        clear hw9
        have hb59 : Below w5.heap.size w5 w9 := HB58.out.grown H.out.grown HB58.out.size (fun k e => by cases e; exact HF6.out.1)
        have HB59 := Lib.hid hb59
        have HB19 : Hid (Below W1.heap.size W1 w9) := Lib.hid (HB5.out.trans (hb59.mono HB5.out.size))
        have HTK := Lib.hid (fun V (hV : Below W1.heap.size W1 V) => toks_ref x A c V (by have := HNX.out; omega) HLC.out (HC1.out V hV))
        obtain ⟨q0, q1, q2, q3, q4, q5, q6, q7⟩ := HNB.out w9 HB19.out
        clear hb59
        go_wp2
        gi_wp2_with (first
          | (refine ⟨trivial, ?_⟩; gi_at_call 22; refine (callsIn_wide.2 (HTK.out w9 HB19.out)).mono ?_; rintro e w10 ⟨v10, rfl, hr10, hb10⟩; obtain ⟨A10, c10, rfl, hl10, hC10⟩ := Kd.R_reads hr10; have HL10 := Lib.hid hl10; have HC10 := Lib.hid hC10; have HR10 := Lib.hid hr10; have HB110 := Lib.hid (HB19.out.trans (hb10.mono HB19.out.size)); have HB510 := Lib.hid (HB59.out.trans (hb10.mono HB59.out.size)); obtain ⟨w11, hw11⟩ : ∃ V, w10.alloc (.cells #[.slice A10 (toks x).length c10] 48) = V := ⟨_, rfl⟩; have h11 : w11.heap[w10.heap.size]? = some (.cells #[.slice A10 (toks x).length c10] 48 (0, 0)) := (by rw [← hw11]; exact World.alloc_heap_new _ _); have hb11 : Below w10.heap.size w10 w11 := (by rw [← hw11]; exact (Below.refl _ _).alloc (Nat.le_refl _) _); have H11 := Lib.hid h11; have HB1011 := Lib.hid hb11; have HB511 := Lib.hid (HB510.out.trans (hb11.mono HB510.out.size)); clear hr10 hb10 hl10 hC10 h11 hb11 q0 q1 q2 q3 q4 q5 q6 q7; obtain ⟨p0, p1, p2, p3, p4, p5, p6, p7⟩ := nd_box HXB.out w11 HB511.out)
          | (refine ⟨trivial, ?_⟩; gi_at_call 23; refine (callsIn_wide.2 (callsIn_wide.1 (toks_in 7 x (some ⟨g, 0, none⟩) x.f2.length (x.f2.length + 1) w11))).mono ?_; rintro e w12 ⟨rfl, hw12⟩; clear p0 p1 p2 p3 p4 p5 p6 p7; obtain ⟨w13, hw13⟩ : ∃ V, w12.alloc (.cells #[.func (.func 32) #[] #[.pointer (some ⟨w11.heap.size, 0, none⟩)]] 51) = V := ⟨_, rfl⟩; have HW12 := Lib.hid hw12; have HW13 := Lib.hid hw13; clear hw12))
        have h12 : w12.heap[w11.heap.size]? = some (.cells #[.int .u8 x.f0, .int .u8 x.f1.f0, .string x.f1.f1, .int .i64 x.f1.f2.f0, .int .i64 x.f1.f2.f1, .int .i64 x.f1.f2.f2, .int .i64 x.f1.f3, .slice (some ⟨g, 0, none⟩) x.f2.length (x.f2.length + 1)] TN (0, 0)) := by rw [HW12.out]; exact World.alloc_heap_new _ _
        have hb12 : Below w11.heap.size w11 w12 := by rw [HW12.out]; exact (Below.refl _ _).alloc (Nat.le_refl _) _
        have h13 : w13.heap[w12.heap.size]? = some (.cells #[.func (.func 32) #[] #[.pointer (some ⟨w11.heap.size, 0, none⟩)]] 51 (0, 0)) := by rw [← HW13.out]; exact World.alloc_heap_new _ _
        have hb13 : Below w12.heap.size w12 w13 := by rw [← HW13.out]; exact (Below.refl _ _).alloc (Nat.le_refl _) _
        have hb1113 : Below w11.heap.size w11 w13 := hb12.trans (hb13.mono hb12.size)
        have hb513 : Below w5.heap.size w5 w13 := HB511.out.trans (hb1113.mono HB511.out.size)
        have hb113 : Below W1.heap.size W1 w13 := HB5.out.trans (hb513.mono HB5.out.size)
        have H12 := Lib.hid ((hb13.block _ (blk_lt h12)).trans h12)
        have H13 := Lib.hid h13
        have HT13 := Lib.hid ((hb1113.block _ (blk_lt H11.out)).trans H11.out)
        have HC13 := Lib.hid (Kd.C_below HC10.out (HB1011.out.trans (hb1113.mono HB1011.out.size)))
        have HB513 := Lib.hid hb513
        have HB1013 := Lib.hid (HB1011.out.trans (hb1113.mono HB1011.out.size))
        have HS12 := Lib.hid hb12.size
        have HB113 := Lib.hid hb113
        have HSA : Hid (∀ V, Below w13.heap.size w13 V → V.cell? ⟨w12.heap.size, 0, none⟩ = some (.func (.func 32) #[] #[.pointer (some ⟨w11.heap.size, 0, none⟩)]) ∧ (V.cell? ⟨w4.heap.size, 0, none⟩ = some (.int .u8 x.f0) ∧ V.cell? ⟨w4.heap.size, 1, none⟩ = some (.int .u8 x.f1.f0) ∧ V.cell? ⟨w4.heap.size, 2, none⟩ = some (.string x.f1.f1) ∧ V.cell? ⟨w4.heap.size, 3, none⟩ = some (.int .i64 x.f1.f2.f0) ∧ V.cell? ⟨w4.heap.size, 4, none⟩ = some (.int .i64 x.f1.f2.f1) ∧ V.cell? ⟨w4.heap.size, 5, none⟩ = some (.int .i64 x.f1.f2.f2) ∧ V.cell? ⟨w4.heap.size, 6, none⟩ = some (.int .i64 x.f1.f3) ∧ V.cell? ⟨w4.heap.size, 7, none⟩ = some (.slice (some ⟨g, 0, none⟩) x.f2.length (x.f2.length + 1))) ∧ (V.cell? ⟨W.heap.size, 0, none⟩ = some (.int .u8 x.f0) ∧ V.cell? ⟨W.heap.size, 1, none⟩ = some (.int .u8 x.f1.f0) ∧ V.cell? ⟨W.heap.size, 2, none⟩ = some (.string x.f1.f1) ∧ V.cell? ⟨W.heap.size, 3, none⟩ = some (.int .i64 x.f1.f2.f0) ∧ V.cell? ⟨W.heap.size, 4, none⟩ = some (.int .i64 x.f1.f2.f1) ∧ V.cell? ⟨W.heap.size, 5, none⟩ = some (.int .i64 x.f1.f2.f2) ∧ V.cell? ⟨W.heap.size, 6, none⟩ = some (.int .i64 x.f1.f3) ∧ V.cell? ⟨W.heap.size, 7, none⟩ = some (.slice A x.f2.length c))) := Lib.hid (fun V hV => ⟨pw_cell_below hV (cell_of_row _ _ _ _ _ _ h13), nd_box HXB.out V (hb513.trans (hV.mono hb513.size)), HNB.out V (hb113.trans (hV.mono hb113.size))⟩)
        obtain ⟨kd, hkd⟩ := depth_f (nds x) x (Nat.le_refl _) (by have := HNX.out; omega)
        have HDP := Lib.hid (fun V (hV : Below w13.heap.size w13 V) => PTreeSame.tree_Depth.calls kd x.f0 x.f1.f0 x.f1.f1 x.f1.f2.f0 x.f1.f2.f1 x.f1.f2.f2 x.f1.f3 (some ⟨g, 0, none⟩) (x.f2.length + 1) x.f2 (dep x) V (by
          obtain ⟨g', he, hr⟩ := cop_C HK5.out
          obtain rfl : g = g' := by simp [ndCells] at he; exact he
          exact Kd.C_below hr (HB513.out.trans (hV.mono HB513.out.size))) (Nat.le_succ _) hkd)
        have HDR := Lib.hid (fun V (hV : Below w13.heap.size w13 V) => depref_any (nds x) x A c V (Nat.le_refl _) (by have := HNX.out; omega) HLC.out (HC1.out V (HB113.out.trans (hV.mono HB113.out.size))))
        obtain ⟨Wd, hWd⟩ : ∃ V, w13.drew = V := ⟨_, rfl⟩
        have hbd : Below w13.heap.size w13 Wd := by rw [← hWd]; exact (Below.refl _ w13).drew
        have HBD := Lib.hid hbd
        have HS := Lib.hid (HSA.out Wd hbd)
        have HWd := Lib.hid hWd
        clear hw13 hw11 hWd hbd hkd h12 hb12 h13 hb13 hb1113 hb513 hb113
        refine wpIn_mono (Q := noPanic _) ?_ noPanic_out
        refine wpIn_wide.2 ?_
        refine wp_region_R (fun w' => w'.cell? ⟨w12.heap.size, 0, none⟩ = some (.func (.func 32) #[] #[.pointer (some ⟨w11.heap.size, 0, none⟩)]) ∧ (w'.cell? ⟨w4.heap.size, 0, none⟩ = some (.int .u8 x.f0) ∧ w'.cell? ⟨w4.heap.size, 1, none⟩ = some (.int .u8 x.f1.f0) ∧ w'.cell? ⟨w4.heap.size, 2, none⟩ = some (.string x.f1.f1) ∧ w'.cell? ⟨w4.heap.size, 3, none⟩ = some (.int .i64 x.f1.f2.f0) ∧ w'.cell? ⟨w4.heap.size, 4, none⟩ = some (.int .i64 x.f1.f2.f1) ∧ w'.cell? ⟨w4.heap.size, 5, none⟩ = some (.int .i64 x.f1.f2.f2) ∧ w'.cell? ⟨w4.heap.size, 6, none⟩ = some (.int .i64 x.f1.f3) ∧ w'.cell? ⟨w4.heap.size, 7, none⟩ = some (.slice (some ⟨g, 0, none⟩) x.f2.length (x.f2.length + 1))) ∧ (w'.cell? ⟨W.heap.size, 0, none⟩ = some (.int .u8 x.f0) ∧ w'.cell? ⟨W.heap.size, 1, none⟩ = some (.int .u8 x.f1.f0) ∧ w'.cell? ⟨W.heap.size, 2, none⟩ = some (.string x.f1.f1) ∧ w'.cell? ⟨W.heap.size, 3, none⟩ = some (.int .i64 x.f1.f2.f0) ∧ w'.cell? ⟨W.heap.size, 4, none⟩ = some (.int .i64 x.f1.f2.f1) ∧ w'.cell? ⟨W.heap.size, 5, none⟩ = some (.int .i64 x.f1.f2.f2) ∧ w'.cell? ⟨W.heap.size, 6, none⟩ = some (.int .i64 x.f1.f3) ∧ w'.cell? ⟨W.heap.size, 7, none⟩ = some (.slice A x.f2.length c))) (fun _ => true) (by kernel_rfl) ?_
        rw [HWd.out]
        refine anyR_take (i := 0) (oi := { dst := some 51, op := .load 51 (.tmp 12), type := 51, pos := "law.go:134", after := #[], guard := none }) (v := ?_) rfl (by kernel_rfl) (fun _ _ _ h => h) (Or.inl ⟨by rfl, ?_⟩) HS.out ?_; rotate_left
        · (intro w9 hSw; (try dsimp only at hSw); go_simp; try (with_reducible rfl))
        try simp only [Act.put, List.setIfInBounds_toArray, List.set_cons_zero, List.set_cons_succ]
        refine anyR_take (i := 1) (oi := { dst := some 52, op := .binOp .eql 51 (.tmp 51) (.const .nilFunc) 51, type := 4, pos := "law.go:134", after := #[{ on := 0, ground := .data }], guard := none }) (v := ?_) rfl (by kernel_rfl) (fun _ _ _ h => h) (Or.inl ⟨by rfl, ?_⟩) HS.out ?_; rotate_left
        · intro w9 hSw; (try dsimp only at hSw); go_simp; rw [eq_nilFunc]; rfl
        try simp only [Act.put, List.setIfInBounds_toArray, List.set_cons_zero, List.set_cons_succ]
        refine anyR_take (i := 2) (oi := { dst := some 53, op := .move (.tmp 52), type := 4, pos := "law.go:134", after := #[{ on := 1, ground := .data }], guard := none }) (v := ?_) rfl (by kernel_rfl) (fun _ _ _ h => h) (Or.inl ⟨by rfl, ?_⟩) HS.out ?_; rotate_left
        · (intro w9 hSw; (try dsimp only at hSw); go_simp; try (with_reducible rfl))
        try simp only [Act.put, List.setIfInBounds_toArray, List.set_cons_zero, List.set_cons_succ]
        refine anyR_take (i := 3) (oi := { dst := some 54, op := .move (.tmp 9), type := 4, pos := "law.go:134", after := #[{ on := 2, ground := .guard }], guard := some (2, false) }) (v := ?_) rfl (by kernel_rfl) (fun _ _ _ h => h) (Or.inl ⟨by rfl, ?_⟩) HS.out ?_; rotate_left
        · (intro w9 hSw; (try dsimp only at hSw); go_simp; try (with_reducible rfl))
        try simp only [Act.put, List.setIfInBounds_toArray, List.set_cons_zero, List.set_cons_succ]
        refine anyR_take (i := 4) (oi := { dst := some 55, op := .unOp .not 4 (.tmp 54), type := 4, pos := "law.go:134", after := #[{ on := 3, ground := .data }, { on := 2, ground := .guard }], guard := some (2, false) }) (v := ?_) rfl (by kernel_rfl) (fun _ _ _ h => h) (Or.inl ⟨by rfl, ?_⟩) HS.out ?_; rotate_left
        · (intro w9 hSw; (try dsimp only at hSw); go_simp; try (with_reducible rfl))
        try simp only [Act.put, List.setIfInBounds_toArray, List.set_cons_zero, List.set_cons_succ]
        refine anyR_take (i := 5) (oi := { dst := some 56, op := .pick (.tmp 53) (.const (.bool true)) (.tmp 55), type := 4, pos := "law.go:134", after := #[{ on := 2, ground := .data }, { on := 4, ground := .data }], guard := none }) (v := ?_) rfl (by kernel_rfl) (fun _ _ _ h => h) (Or.inl ⟨by rfl, ?_⟩) HS.out ?_; rotate_left
        · (intro w9 hSw; (try dsimp only at hSw); go_simp; try (with_reducible rfl))
        try simp only [Act.put, List.setIfInBounds_toArray, List.set_cons_zero, List.set_cons_succ]
        refine anyR_take (i := 6) (oi := { dst := some 57, op := .move (.tmp 56), type := 4, pos := "law.go:134", after := #[{ on := 5, ground := .data }, { on := 2, ground := .chain }], guard := none }) (v := ?_) rfl (by kernel_rfl) (fun _ _ _ h => h) (Or.inl ⟨by rfl, ?_⟩) HS.out ?_; rotate_left
        · (intro w9 hSw; (try dsimp only at hSw); go_simp; try (with_reducible rfl))
        try simp only [Act.put, List.setIfInBounds_toArray, List.set_cons_zero, List.set_cons_succ]
        refine anyR_take (i := 7) (oi := { dst := some 58, op := .load 35 (.tmp 6), type := 35, pos := "law.go:134", after := #[{ on := 6, ground := .guard }], guard := some (6, false) }) (v := ?_) rfl (by kernel_rfl) (fun _ _ _ h => h) (Or.inl ⟨by rfl, ?_⟩) HS.out ?_; rotate_left
        · (intro w9 hSw; (try dsimp only at hSw); go_simp; try (with_reducible rfl))
        try simp only [Act.put, List.setIfInBounds_toArray, List.set_cons_zero, List.set_cons_succ]
        refine anyR_take (i := 9) (oi := { dst := some 60, op := .load 35 (.tmp 2), type := 35, pos := "law.go:134", after := #[{ on := 6, ground := .guard }], guard := some (6, false) }) (v := ?_) rfl (by kernel_rfl) (fun _ _ _ h => h) (Or.inl ⟨by rfl, ?_⟩) HS.out ?_; rotate_left
        · (intro w9 hSw; (try dsimp only at hSw); go_simp; try (with_reducible rfl))
        try simp only [Act.put, List.setIfInBounds_toArray, List.set_cons_zero, List.set_cons_succ]
        refine anyR_ready (rs := [8]) (by kernel_rfl) (by simp) ?_
        refine ReadyR.cons (o := { dst := some 59, op := .call { callee := .value (.func 20), args := #[.tmp 58], argTypes := #[35] }, type := 3, pos := "law.go:134", after := #[{ on := 7, ground := .data }, { on := 6, ground := .chain }, { on := 6, ground := .guard }], guard := some (6, false) }) rfl (fun K hK => ?_) ReadyR.nil
        go_simp
        refine (HDP.out Wd HBD.out).mono ?_
        rintro e w14 ⟨rfl, hb14⟩
        have hb14' := HBD.out.trans (hb14.mono HBD.out.size)
        refine hK.out _ _ (fun _ => HSA.out w14 hb14') ?_
        have HS14 := Lib.hid (HSA.out w14 hb14')
        have HB14 := Lib.hid hb14'
        clear hK K hb14 hb14'
        try simp only [Act.put, List.setIfInBounds_toArray, List.set_cons_zero, List.set_cons_succ]
        refine anyR_ready (rs := [10]) (by kernel_rfl) (by simp) ?_
        refine ReadyR.cons (o := { dst := some 61, op := .call { callee := .value (.func 24), args := #[.tmp 60], argTypes := #[35] }, type := 3, pos := "law.go:134", after := #[{ on := 9, ground := .data }, { on := 8, ground := .chain }, { on := 6, ground := .guard }], guard := some (6, false) }) rfl (fun K hK => ?_) ReadyR.nil
        go_simp
        refine (HDR.out w14 HB14.out).mono ?_
        rintro e w15 ⟨rfl, hb15⟩
        have hb15' := HB14.out.trans (hb15.mono HB14.out.size)
        refine hK.out _ _ (fun _ => HSA.out w15 hb15') ?_
        have HS15 := Lib.hid (HSA.out w15 hb15')
        have HB15 := Lib.hid hb15'
        clear hK K hb15 hb15'
        try simp only [Act.put, List.setIfInBounds_toArray, List.set_cons_zero, List.set_cons_succ]
        refine anyR_take (i := 11) (oi := { dst := some 62, op := .binOp .neq 3 (.tmp 59) (.tmp 61) 3, type := 4, pos := "law.go:134", after := #[{ on := 8, ground := .data }, { on := 10, ground := .data }, { on := 6, ground := .guard }], guard := some (6, false) }) (v := ?_) rfl (by kernel_rfl) (fun _ _ _ h => h) (Or.inl ⟨by rfl, ?_⟩) HS15.out ?_; rotate_left
        · (intro w9 hSw; (try dsimp only at hSw); go_simp; try (with_reducible rfl))
        try simp only [Act.put, List.setIfInBounds_toArray, List.set_cons_zero, List.set_cons_succ]
        refine anyR_take (i := 12) (oi := { dst := some 63, op := .pick (.tmp 57) (.const (.bool true)) (.tmp 62), type := 4, pos := "law.go:134", after := #[{ on := 6, ground := .data }, { on := 11, ground := .data }], guard := none }) (v := ?_) rfl (by kernel_rfl) (fun _ _ _ h => h) (Or.inl ⟨by rfl, ?_⟩) HS15.out ?_; rotate_left
        · (intro w9 hSw; (try dsimp only at hSw); go_simp; try (with_reducible rfl))
        try simp only [Act.put, List.setIfInBounds_toArray, List.set_cons_zero, List.set_cons_succ]
        refine anyR_done (by kernel_rfl) ?_ _
        simp only [noPanic, Exit.then]
        have hb115 : Below W1.heap.size W1 w15 := HB113.out.trans (HB15.out.mono HB113.out.size)
        have be : Boxed w15 (W.heap.size + 1) 3 (.int .i64 ea) := (hb115.block _ (blk_lt HEB.out)).trans HEB.out
        have br : Boxed w15 (W.heap.size + 1 + 1) 4 (.bool false) := (hb115.block _ (blk_lt HRB.out)).trans HRB.out
        have bt : Boxed w15 w10.heap.size 48 (.slice A10 (toks x).length c10) := (HB15.out.block _ (blk_lt HT13.out)).trans HT13.out
        have bs : Boxed w15 w12.heap.size 51 (.func (.func 32) #[] #[.pointer (some ⟨w11.heap.size, 0, none⟩)]) := (HB15.out.block _ (blk_lt H13.out)).trans H13.out
        have HBE := Lib.hid be
        have HBR := Lib.hid br
        have HBT := Lib.hid bt
        have HBS := Lib.hid bs
        have ce := be.cell
        have fe := be.frozen
        have ct := bt.cell
        have he0 := HEA.out.1
        have he1 := HEA.out.2
        have HB115 := Lib.hid hb115
        clear be br bt bs hb115
        have hn := toks_len x
        have hn2 : (toks x).length ≤ 16777216 := Nat.le_trans hn HNX.out
        have hnz : ¬ ((toks x).length : Int) + 1 = 0 := by omega
        clear hn
        by_cases hneg : ea < 0
        · have dn : decide (ea < 0) = true := decide_eq_true hneg
          obtain ⟨w15b, hw15b⟩ : ∃ V, w15.setCell ⟨W.heap.size + 1, 0, none⟩ (.int .i64 (-(ea + 1))) = V := ⟨_, rfl⟩
          have hg15b : w15.grownBy w15b (some (W.heap.size + 1)) := by rw [← hw15b]; exact grownBy_setCell' w15 _ _
          have hb15b : Boxed w15b (W.heap.size + 1) 3 (.int .i64 (-(ea + 1))) := by rw [← hw15b]; exact HBE.out.set _
          have ceb := hb15b.cell
          have feb := hb15b.frozen
          have ctb : w15b.cell? ⟨w10.heap.size, 0, none⟩ = some (.slice A10 (toks x).length c10) := by
            rw [← hw15b]
            have h1 : W.heap.size + 1 + 1 < W1.heap.size := blk_lt HRB.out
            have h2 := HB110.out.size
            exact (HBT.out.other (show w10.heap.size ≠ W.heap.size + 1 by omega) _).cell
          obtain ⟨w16, hw16⟩ : ∃ V, w15b.setCell ⟨W.heap.size + 1, 0, none⟩ (.int .i64 (-((ea + 1).tmod (((toks x).length : Int) + 1)))) = V := ⟨_, rfl⟩
          have hg16 : w15.grownBy w16 (some (W.heap.size + 1)) := by rw [← hw16]; exact World.grownBy.trans hg15b (grownBy_setCell' w15b _ _)
          have he16 : Boxed w16 (W.heap.size + 1) 3 (.int .i64 (-((ea + 1).tmod (((toks x).length : Int) + 1)))) := by rw [← hw16]; exact hb15b.set _
          have hq : (-((ea + 1).tmod (((toks x).length : Int) + 1))) = (-(ea + 1)) % (((toks x).length : Int) + 1) := by rw [← Int.neg_tmod, Int.tmod_eq_emod_of_nonneg (by omega)]
          have hE0 : 0 ≤ (-((ea + 1).tmod (((toks x).length : Int) + 1))) := by rw [hq]; exact Int.emod_nonneg _ hnz
          have hE1 : (-((ea + 1).tmod (((toks x).length : Int) + 1))) < (((toks x).length : Int) + 1) := by rw [hq]; exact Int.emod_lt_of_pos _ (by omega)
          clear hq
          obtain ⟨E, hE⟩ : ∃ E, (-((ea + 1).tmod (((toks x).length : Int) + 1))) = E := ⟨_, rfl⟩
          rw [hE] at hw16 he16 hE0 hE1
          have hz1 : W.heap.size + 1 + 1 < W1.heap.size := blk_lt HRB.out
          have hz3 := HB3.out.size
          have hz4 := HB4.out.size
          have hz10 := HB110.out.size
          have hz11 := HB1011.out.size
          have hz12 := HS12.out
          have hz9 := HB19.out.size
          have hbW : Below W.heap.size W w16 := (HB1.out.trans (HB115.out.mono HB1.out.size)).grown hg16 (Nat.le_trans HB1.out.size HB115.out.size) (fun k e => by cases e; omega)
          have hne : ∀ k, W.heap.size + 1 ≠ k → k < w15.heap.size → w16.heap[k]? = w15.heap[k]? := fun k hk hl => hg16.block k hl (fun e => by cases e; exact hk rfl)
          have hta : TAt w16 W.heap.size w3.heap.size w4.heap.size w10.heap.size w11.heap.size w12.heap.size g x A A10 c c10 E := by
            have hbn : w15.heap[w11.heap.size]? = _ := (HB15.out.block _ (blk_lt H12.out)).trans H12.out
            have hbx : w15.heap[w4.heap.size]? = _ := ((HB513.out.trans (HB15.out.mono HB513.out.size)).block _ (blk_lt HXB.out)).trans HXB.out
            have hbm : w15.heap[W.heap.size]? = _ := (HB115.out.block _ (blk_lt HN0.out)).trans HN0.out
            have hb1015 : Below w10.heap.size w10 w15 := HB1013.out.trans (HB15.out.mono HB1013.out.size)
            refine ⟨he16, (hne _ (by omega) HBR.out.lt).trans HBR.out, (hne _ (by omega) HBT.out.lt).trans HBT.out, (hne _ (by omega) HBS.out.lt).trans HBS.out, (hne _ (by omega) (blk_lt hbn)).trans hbn, (hne _ (by omega) (blk_lt hbx)).trans hbx, (hne _ (by omega) (blk_lt hbm)).trans hbm, ?_, ?_, HC0.out w16 hbW⟩
            · exact cop_move (fun b h1 h2 => hne b (by omega) h2) x (cop_below (cop_below HK5.out HB513.out) HB15.out)
            · have hr16 := Kd.R_move (w1 := w16) (Kd.R_bound HR10.out) (fun k hk => (hne k (by have := hk.2.1; omega) (Nat.lt_of_lt_of_le hk.2.2.1 hb1015.size)).trans (hb1015.block k hk.2.2.1))
              exact (Kd.R_reads' hr16).2.2
          have HTA := Lib.hid hta
          have HBW := Lib.hid hbW
          have HE := Lib.hid (And.intro hE0 hE1)
          have HKC : Hid (Kd.C kNd w16 (some ⟨g, 0, none⟩) x.f2.length x.f2) := Lib.hid (by
            obtain ⟨g', he, hr⟩ := cop_C hta.cop
            obtain rfl : g = g' := by simp [ndCells] at he; exact he
            exact hr)
          have HZ := Lib.hid (show W.heap.size + 1 + 1 < w16.heap.size by have := hta.res.lt; omega)
          obtain ⟨w17, hw17⟩ : ∃ V, w16.alloc (.cells #[.int .i64 0] 3) = V := ⟨_, rfl⟩
          have hb17 : Below w16.heap.size w16 w17 := by rw [← hw17]; exact (Below.refl _ _).alloc (Nat.le_refl _) _
          have hk17 : Boxed w17 w16.heap.size 3 (.int .i64 0) := by rw [← hw17]; exact Boxed.new _ _ _
          have ck17 := hk17.cell
          have fk17 := hk17.frozen
          obtain ⟨w18, hw18⟩ : ∃ V, w17.setCell ⟨w16.heap.size, 0, none⟩ (.int .i64 0) = V := ⟨_, rfl⟩
          have hb18 : Below w16.heap.size w16 w18 := by rw [← hw18]; exact hb17.setCell (p := ⟨w16.heap.size, 0, none⟩) (Nat.le_refl _) _
          have hk18 : Boxed w18 w16.heap.size 3 (.int .i64 0) := by rw [← hw18]; exact hk17.set _
          have HK18 := Lib.hid hk18
          have HB18 := Lib.hid hb18
          have cs := (hta.below hb18).seq.cell
          clear hta hbW hE0 hE1 hb17 hk17 hb18 hk18 hne hz1 hz3 hz4 hz9 hz10 hz11 hz12 hg16 he16
          gi_wp2
          clear hw15b ceb feb ctb hb15b hg15b ck17 fk17 hw18 hw16 hw17 ce fe ct he0 he1 dn cs HBE HBR HBT HBS HEA HB115 HB15 HS15 HS14 HB14 HSA HDP HDR HWd HBD HS HC13 HT13 H13 H12 HB513 HB113 HB1013 HS12 HL10 HC10 HR10 HB110 HB510 H11 HB1011 HB511 HTK HB19 HB59 HB58 HEI HNP HNL HSM HER HEV HCP
          refine wpIn_post (fun a' V' => ∃ (D kk : Nat) (V : World), a' = { tmps := #[.agg #[.int .u8 x.f0, .int .u8 x.f1.f0, .string x.f1.f1, .int .i64 x.f1.f2.f0, .int .i64 x.f1.f2.f1, .int .i64 x.f1.f2.f2, .int .i64 x.f1.f3, .slice A x.f2.length c], .int .i64 ea, .pointer (some ⟨W.heap.size, 0, none⟩), .pointer (some ⟨W.heap.size + 1, 0, none⟩), .pointer (some ⟨W.heap.size + 1 + 1, 0, none⟩), .bool true, .pointer (some ⟨w4.heap.size, 0, none⟩), .slice (some ⟨g6, 0, none⟩) (tells x).length c6, .slice A7 (tells x).length c7, .bool true, .int .i64 ↑i, .pointer (some ⟨w10.heap.size, 0, none⟩), .pointer (some ⟨w12.heap.size, 0, none⟩), .pointer (some ⟨w16.heap.size, 0, none⟩), undef, undef, undef, undef, undef, .bool true, .bool true, .bool false, .bool false, .agg #[.int .u8 x.f0, .int .u8 x.f1.f0, .string x.f1.f1, .int .i64 x.f1.f2.f0, .int .i64 x.f1.f2.f1, .int .i64 x.f1.f2.f2, .int .i64 x.f1.f3, .slice A x.f2.length c], .int .i64 r, .bool false, .bool false, undef, .agg #[.int .u8 x.f0, .int .u8 x.f1.f0, .string x.f1.f1, .int .i64 x.f1.f2.f0, .int .i64 x.f1.f2.f1, .int .i64 x.f1.f2.f2, .int .i64 x.f1.f3, .slice A x.f2.length c], .agg #[.int .u8 x.f0, .int .u8 x.f1.f0, .string x.f1.f1, .int .i64 x.f1.f2.f0, .int .i64 x.f1.f2.f1, .int .i64 x.f1.f2.f2, .int .i64 x.f1.f3, .slice (some ⟨g, 0, none⟩) x.f2.length (x.f2.length + 1)], .agg #[.int .u8 x.f0, .int .u8 x.f1.f0, .string x.f1.f1, .int .i64 x.f1.f2.f0, .int .i64 x.f1.f2.f1, .int .i64 x.f1.f2.f2, .int .i64 x.f1.f3, .slice (some ⟨g, 0, none⟩) x.f2.length (x.f2.length + 1)], .slice (some ⟨g6, 0, none⟩) (tells x).length c6, .agg #[.int .u8 x.f0, .int .u8 x.f1.f0, .string x.f1.f1, .int .i64 x.f1.f2.f0, .int .i64 x.f1.f2.f1, .int .i64 x.f1.f2.f2, .int .i64 x.f1.f3, .slice A x.f2.length c], .slice A7 (tells x).length c7, .slice (some ⟨g6, 0, none⟩) (tells x).length c6, .slice A7 (tells x).length c7, .bool true, .int .i64 ↑i, .slice (some ⟨g6, 0, none⟩) (tells x).length c6, .int .i64 ↑(tells x).length, .bool false, u41, u42, u43, u44, u45, u46, .agg #[.int .u8 x.f0, .int .u8 x.f1.f0, .string x.f1.f1, .int .i64 x.f1.f2.f0, .int .i64 x.f1.f2.f1, .int .i64 x.f1.f2.f2, .int .i64 x.f1.f3, .slice A x.f2.length c], .slice A10 (toks x).length c10, .agg #[.int .u8 x.f0, .int .u8 x.f1.f0, .string x.f1.f1, .int .i64 x.f1.f2.f0, .int .i64 x.f1.f2.f1, .int .i64 x.f1.f2.f2, .int .i64 x.f1.f3, .slice (some ⟨g, 0, none⟩) x.f2.length (x.f2.length + 1)], .func (.func 32) #[] #[.pointer (some ⟨w11.heap.size, 0, none⟩)], .func (.func 32) #[] #[.pointer (some ⟨w11.heap.size, 0, none⟩)], .bool false, .bool false, .bool true, .bool false, .bool false, .bool false, .agg #[.int .u8 x.f0, .int .u8 x.f1.f0, .string x.f1.f1, .int .i64 x.f1.f2.f0, .int .i64 x.f1.f2.f1, .int .i64 x.f1.f2.f2, .int .i64 x.f1.f3, .slice (some ⟨g, 0, none⟩) x.f2.length (x.f2.length + 1)], .int .i64 ↑(dep x), .agg #[.int .u8 x.f0, .int .u8 x.f1.f0, .string x.f1.f1, .int .i64 x.f1.f2.f0, .int .i64 x.f1.f2.f1, .int .i64 x.f1.f2.f2, .int .i64 x.f1.f3, .slice A x.f2.length c], .int .i64 ↑(dep x), .bool false, .bool false, .int .i64 ea, .bool true, .int .i64 ea, .int .i64 (ea + 1), .int .i64 (-(ea + 1)), .int .i64 (-(ea + 1)), .slice A10 (toks x).length c10, .int .i64 ↑(toks x).length, .int .i64 (↑(toks x).length + 1), .int .i64 E, .func (.func 32) #[] #[.pointer (some ⟨w11.heap.size, 0, none⟩)], undef, undef, undef, undef, undef, undef, undef, undef, undef, undef, undef, undef, undef, undef, undef, undef, undef, undef, undef, undef, undef, undef, undef, undef, undef, undef, undef, undef, undef, undef, undef, undef, undef, undef, undef, undef, undef, undef, undef, undef, undef, undef, undef, undef, undef, undef, undef, undef, undef, undef, undef, undef, undef, undef, undef, undef, undef, undef, undef, undef, undef, undef, undef, undef, undef, undef, undef, undef, undef, undef, undef, undef, undef], defers := [{ target := .collected D, args := #[] }] } ∧ V' = V ∧ w18.heap.size ≤ D ∧ V.heap[D]? = some (.deferred (some [])) ∧ KpT w16 w18 V ∧ Boxed V w16.heap.size 3 (.int .i64 (kk : Nat)) ∧ (0 < E → (kk : Int) = E)) ?restN (fun a' V' h => by simp only [Exit.inBlock] at h ⊢; exact h) ?loopN
          case restN =>
            rintro _ V ⟨D, kk, V0, rfl, hV, hD, hDef, hkp, hbk, hke⟩
            subst hV
            simp only [Exit.inBlock, Exit.then]
            have hta := HTA.out.below (HB18.out.trans hkp.below)
            have ce := hta.early.cell
            have ckk := hbk.cell
            have fkk := hbk.frozen
            have HKP := Lib.hid hkp
            have HTV := Lib.hid hta
            have HBK := Lib.hid hbk
            have HDD := Lib.hid (And.intro hD hDef)
            clear hkp hta hbk hD hDef
            rename_i hKK
            refine hKK _ _ ?_
            clear hKK
            refine wpIn_seq ?_
            refine wpIn_postN (fun a' V' => ∃ u94 u95 u96 u97 u98, a' = { tmps := #[.agg #[.int .u8 x.f0, .int .u8 x.f1.f0, .string x.f1.f1, .int .i64 x.f1.f2.f0, .int .i64 x.f1.f2.f1, .int .i64 x.f1.f2.f2, .int .i64 x.f1.f3, .slice A x.f2.length c], .int .i64 ea, .pointer (some ⟨W.heap.size, 0, none⟩), .pointer (some ⟨W.heap.size + 1, 0, none⟩), .pointer (some ⟨W.heap.size + 1 + 1, 0, none⟩), .bool true, .pointer (some ⟨w4.heap.size, 0, none⟩), .slice (some ⟨g6, 0, none⟩) (tells x).length c6, .slice A7 (tells x).length c7, .bool true, .int .i64 ↑i, .pointer (some ⟨w10.heap.size, 0, none⟩), .pointer (some ⟨w12.heap.size, 0, none⟩), .pointer (some ⟨w16.heap.size, 0, none⟩), undef, undef, undef, undef, undef, .bool true, .bool true, .bool false, .bool false, .agg #[.int .u8 x.f0, .int .u8 x.f1.f0, .string x.f1.f1, .int .i64 x.f1.f2.f0, .int .i64 x.f1.f2.f1, .int .i64 x.f1.f2.f2, .int .i64 x.f1.f3, .slice A x.f2.length c], .int .i64 r, .bool false, .bool false, undef, .agg #[.int .u8 x.f0, .int .u8 x.f1.f0, .string x.f1.f1, .int .i64 x.f1.f2.f0, .int .i64 x.f1.f2.f1, .int .i64 x.f1.f2.f2, .int .i64 x.f1.f3, .slice A x.f2.length c], .agg #[.int .u8 x.f0, .int .u8 x.f1.f0, .string x.f1.f1, .int .i64 x.f1.f2.f0, .int .i64 x.f1.f2.f1, .int .i64 x.f1.f2.f2, .int .i64 x.f1.f3, .slice (some ⟨g, 0, none⟩) x.f2.length (x.f2.length + 1)], .agg #[.int .u8 x.f0, .int .u8 x.f1.f0, .string x.f1.f1, .int .i64 x.f1.f2.f0, .int .i64 x.f1.f2.f1, .int .i64 x.f1.f2.f2, .int .i64 x.f1.f3, .slice (some ⟨g, 0, none⟩) x.f2.length (x.f2.length + 1)], .slice (some ⟨g6, 0, none⟩) (tells x).length c6, .agg #[.int .u8 x.f0, .int .u8 x.f1.f0, .string x.f1.f1, .int .i64 x.f1.f2.f0, .int .i64 x.f1.f2.f1, .int .i64 x.f1.f2.f2, .int .i64 x.f1.f3, .slice A x.f2.length c], .slice A7 (tells x).length c7, .slice (some ⟨g6, 0, none⟩) (tells x).length c6, .slice A7 (tells x).length c7, .bool true, .int .i64 ↑i, .slice (some ⟨g6, 0, none⟩) (tells x).length c6, .int .i64 ↑(tells x).length, .bool false, u41, u42, u43, u44, u45, u46, .agg #[.int .u8 x.f0, .int .u8 x.f1.f0, .string x.f1.f1, .int .i64 x.f1.f2.f0, .int .i64 x.f1.f2.f1, .int .i64 x.f1.f2.f2, .int .i64 x.f1.f3, .slice A x.f2.length c], .slice A10 (toks x).length c10, .agg #[.int .u8 x.f0, .int .u8 x.f1.f0, .string x.f1.f1, .int .i64 x.f1.f2.f0, .int .i64 x.f1.f2.f1, .int .i64 x.f1.f2.f2, .int .i64 x.f1.f3, .slice (some ⟨g, 0, none⟩) x.f2.length (x.f2.length + 1)], .func (.func 32) #[] #[.pointer (some ⟨w11.heap.size, 0, none⟩)], .func (.func 32) #[] #[.pointer (some ⟨w11.heap.size, 0, none⟩)], .bool false, .bool false, .bool true, .bool false, .bool false, .bool false, .agg #[.int .u8 x.f0, .int .u8 x.f1.f0, .string x.f1.f1, .int .i64 x.f1.f2.f0, .int .i64 x.f1.f2.f1, .int .i64 x.f1.f2.f2, .int .i64 x.f1.f3, .slice (some ⟨g, 0, none⟩) x.f2.length (x.f2.length + 1)], .int .i64 ↑(dep x), .agg #[.int .u8 x.f0, .int .u8 x.f1.f0, .string x.f1.f1, .int .i64 x.f1.f2.f0, .int .i64 x.f1.f2.f1, .int .i64 x.f1.f2.f2, .int .i64 x.f1.f3, .slice A x.f2.length c], .int .i64 ↑(dep x), .bool false, .bool false, .int .i64 ea, .bool true, .int .i64 ea, .int .i64 (ea + 1), .int .i64 (-(ea + 1)), .int .i64 (-(ea + 1)), .slice A10 (toks x).length c10, .int .i64 ↑(toks x).length, .int .i64 (↑(toks x).length + 1), .int .i64 E, .func (.func 32) #[] #[.pointer (some ⟨w11.heap.size, 0, none⟩)], undef, undef, undef, undef, undef, undef, undef, undef, undef, undef, undef, undef, undef, undef, undef, undef, undef, undef, .int .i64 E, u94, u95, u96, u97, u98, .bool false, undef, undef, undef, undef, undef, undef, undef, undef, undef, undef, undef, undef, undef, undef, undef, undef, undef, undef, undef, undef, undef, undef, undef, undef, undef, undef, undef, undef, undef, undef, undef, undef, undef, undef, undef, undef, undef, undef, undef, undef, undef, undef, undef, undef, undef, undef, undef, undef], defers := [{ target := .collected D, args := #[] }] } ∧ V' = V) ?rest2N ?reg26N
            case reg26N =>
              by_cases h0 : 0 < E
              · have d0 : decide (0 < E) = true := decide_eq_true h0
                have hk := hke h0
                have d1 : (decide ((kk : Int) = E)) = true := decide_eq_true hk
                have d2 : ((kk : Int) == E) = true := by simp [hk]
                clear h0 hke hk
                gi_wp2
              · have d0 : decide (0 < E) = false := decide_eq_false h0
                clear h0 hke
                gi_wp2
            case rest2N =>
              rintro _ V' ⟨u94, u95, u96, u97, u98, rfl, hV'⟩
              subst hV'
              simp only [Exit.then]
              have hk2 : Boxed (V'.setCell ⟨w16.heap.size, 0, none⟩ (.int .i64 0)) w16.heap.size 3 (.int .i64 0) := HBK.out.set _
              obtain ⟨V2, hV2⟩ : ∃ U, V'.setCell ⟨w16.heap.size, 0, none⟩ (.int .i64 0) = U := ⟨_, rfl⟩
              rw [hV2] at hk2
              have hb2 : Below w16.heap.size w16 V2 := by rw [← hV2]; exact (HB18.out.trans HKP.out.below).setCell (p := ⟨w16.heap.size, 0, none⟩) (Nat.le_refl _) _
              have hd2 : V2.heap[D]? = some (.deferred (some [])) := by
                rw [← hV2]
                refine ((grownBy_setCell' V' _ _).block D (blk_lt HDD.out.2) (fun e => ?_)).trans HDD.out.2
                cases e
                have h := HDD.out.2
                rw [show V'.heap[w16.heap.size]? = _ from HBK.out] at h
                cases h
              have cs2 := (HTA.out.below hb2).seq.cell
              have HK2 := Lib.hid hk2
              have HB2 := Lib.hid hb2
              have HD2 := Lib.hid hd2
              have HDW : Hid (w16.heap.size < D) := Lib.hid (by have := HDD.out.1; have := HK18.out.lt; omega)
              clear hk2 hb2 hd2 hke
              gi_wp2
              clear ckk fkk cs2 ce hV2 HKP HTV HBK HDD
              refine wpIn_rangeFunc_ownH rfl (by decide) (gf := 32) (lb := #[.pointer (some ⟨w11.heap.size, 0, none⟩)]) rfl trivial (enters_of Try.func32 (by kernel_rfl) rfl)
                (toks_stops 7 (by decide) w16 x (some ⟨g, 0, none⟩) (x.f2.length + 1) (Nat.le_succ _) (by have := HNX.out; omega) HKC.out w16 (Below.refl _ _) w11.heap.size HTA.out.bn)
                (fun h h' => KpT.trans h h') (fun V l o o' hl h hc _ => KpT.putObj o' (Nat.le_trans HB2.out.size hl) h hc) HB2.out (fun _ => rfl)
                (fun pre V => LI w16 V2 w16.heap.size w16.heap.size (toks x) pre V)
                (fun c pre V => c = .ret ∧ ¬ pre <+: toks x)
                (LI.own HB2.out.size (Nat.le_refl _)) (fun c => ownFrom_pure _ _)
                ⟨KpT.refl _ _, KeepsFrom.refl _ _, HK2.out, List.nil_prefix⟩
                (fun t a' V => ∃ Bx, V2.heap.size ≤ Bx ∧ V.heap[Bx]? = some (.cells #[.int .u8 t.f0, .string t.f1, .int .i64 t.f2.f0, .int .i64 t.f2.f1, .int .i64 t.f2.f2, .int .i64 t.f3] 30 (0, 0)) ∧ a' = { tmps := #[.agg #[.int .u8 x.f0, .int .u8 x.f1.f0, .string x.f1.f1, .int .i64 x.f1.f2.f0, .int .i64 x.f1.f2.f1, .int .i64 x.f1.f2.f2, .int .i64 x.f1.f3, .slice A x.f2.length c], .int .i64 ea, .pointer (some ⟨W.heap.size, 0, none⟩), .pointer (some ⟨W.heap.size + 1, 0, none⟩), .pointer (some ⟨W.heap.size + 1 + 1, 0, none⟩), .bool true, .pointer (some ⟨w4.heap.size, 0, none⟩), .slice (some ⟨g6, 0, none⟩) (tells x).length c6, .slice A7 (tells x).length c7, .bool true, .int .i64 ↑i, .pointer (some ⟨w10.heap.size, 0, none⟩), .pointer (some ⟨w12.heap.size, 0, none⟩), .pointer (some ⟨w16.heap.size, 0, none⟩), undef, .pointer (some ⟨Bx, 0, none⟩), undef, undef, undef, .bool true, .bool true, .bool false, .bool false, .agg #[.int .u8 x.f0, .int .u8 x.f1.f0, .string x.f1.f1, .int .i64 x.f1.f2.f0, .int .i64 x.f1.f2.f1, .int .i64 x.f1.f2.f2, .int .i64 x.f1.f3, .slice A x.f2.length c], .int .i64 r, .bool false, .bool false, undef, .agg #[.int .u8 x.f0, .int .u8 x.f1.f0, .string x.f1.f1, .int .i64 x.f1.f2.f0, .int .i64 x.f1.f2.f1, .int .i64 x.f1.f2.f2, .int .i64 x.f1.f3, .slice A x.f2.length c], .agg #[.int .u8 x.f0, .int .u8 x.f1.f0, .string x.f1.f1, .int .i64 x.f1.f2.f0, .int .i64 x.f1.f2.f1, .int .i64 x.f1.f2.f2, .int .i64 x.f1.f3, .slice (some ⟨g, 0, none⟩) x.f2.length (x.f2.length + 1)], .agg #[.int .u8 x.f0, .int .u8 x.f1.f0, .string x.f1.f1, .int .i64 x.f1.f2.f0, .int .i64 x.f1.f2.f1, .int .i64 x.f1.f2.f2, .int .i64 x.f1.f3, .slice (some ⟨g, 0, none⟩) x.f2.length (x.f2.length + 1)], .slice (some ⟨g6, 0, none⟩) (tells x).length c6, .agg #[.int .u8 x.f0, .int .u8 x.f1.f0, .string x.f1.f1, .int .i64 x.f1.f2.f0, .int .i64 x.f1.f2.f1, .int .i64 x.f1.f2.f2, .int .i64 x.f1.f3, .slice A x.f2.length c], .slice A7 (tells x).length c7, .slice (some ⟨g6, 0, none⟩) (tells x).length c6, .slice A7 (tells x).length c7, .bool true, .int .i64 ↑i, .slice (some ⟨g6, 0, none⟩) (tells x).length c6, .int .i64 ↑(tells x).length, .bool false, u41, u42, u43, u44, u45, u46, .agg #[.int .u8 x.f0, .int .u8 x.f1.f0, .string x.f1.f1, .int .i64 x.f1.f2.f0, .int .i64 x.f1.f2.f1, .int .i64 x.f1.f2.f2, .int .i64 x.f1.f3, .slice A x.f2.length c], .slice A10 (toks x).length c10, .agg #[.int .u8 x.f0, .int .u8 x.f1.f0, .string x.f1.f1, .int .i64 x.f1.f2.f0, .int .i64 x.f1.f2.f1, .int .i64 x.f1.f2.f2, .int .i64 x.f1.f3, .slice (some ⟨g, 0, none⟩) x.f2.length (x.f2.length + 1)], .func (.func 32) #[] #[.pointer (some ⟨w11.heap.size, 0, none⟩)], .func (.func 32) #[] #[.pointer (some ⟨w11.heap.size, 0, none⟩)], .bool false, .bool false, .bool true, .bool false, .bool false, .bool false, .agg #[.int .u8 x.f0, .int .u8 x.f1.f0, .string x.f1.f1, .int .i64 x.f1.f2.f0, .int .i64 x.f1.f2.f1, .int .i64 x.f1.f2.f2, .int .i64 x.f1.f3, .slice (some ⟨g, 0, none⟩) x.f2.length (x.f2.length + 1)], .int .i64 ↑(dep x), .agg #[.int .u8 x.f0, .int .u8 x.f1.f0, .string x.f1.f1, .int .i64 x.f1.f2.f0, .int .i64 x.f1.f2.f1, .int .i64 x.f1.f2.f2, .int .i64 x.f1.f3, .slice A x.f2.length c], .int .i64 ↑(dep x), .bool false, .bool false, .int .i64 ea, .bool true, .int .i64 ea, .int .i64 (ea + 1), .int .i64 (-(ea + 1)), .int .i64 (-(ea + 1)), .slice A10 (toks x).length c10, .int .i64 ↑(toks x).length, .int .i64 (↑(toks x).length + 1), .int .i64 E, .func (.func 32) #[] #[.pointer (some ⟨w11.heap.size, 0, none⟩)], undef, undef, undef, undef, undef, undef, undef, undef, undef, undef, undef, undef, undef, undef, undef, undef, undef, undef, .int .i64 E, u94, u95, u96, u97, u98, .bool false, .func (.func 32) #[] #[.pointer (some ⟨w11.heap.size, 0, none⟩)], .agg #[.int .u8 t.f0, .string t.f1, .int .i64 t.f2.f0, .int .i64 t.f2.f1, .int .i64 t.f2.f2, .int .i64 t.f3], undef, undef, undef, undef, undef, undef, undef, undef, undef, undef, undef, undef, undef, undef, undef, undef, undef, undef, undef, undef, undef, undef, undef, undef, undef, undef, undef, undef, undef, undef, undef, undef, undef, undef, undef, undef, undef, undef, undef, undef, undef, undef, undef, undef, undef, undef], defers := [] }) ?hAx2N ?assign2N ?body2N ?done2N ?stop2N
              case hAx2N =>
                rintro t a' _ X Y row ⟨Bx, h1, h2, h3⟩ hg hr
                refine ⟨Bx, h1, (hg.block Bx (Array.getElem?_eq_some_iff.1 h2).1 fun e => ?_).trans h2, h3⟩
                obtain ⟨_, o, ho, hc⟩ := hr Bx e.symm
                rw [h2] at ho; cases ho; cases hc
              case assign2N =>
                rintro l pre t V K hI hK
                unfold tkV
                gi_wp2
                exact hK _ _ ((KeepsOthers.alloc _ _).from _) (KpT.alloc (Nat.le_trans HB2.out.size hI.keeps.size) _) (hI.alloc HB2.out.size _) ⟨V.heap.size, hI.keeps.size, World.alloc_heap_new _ _, rfl⟩
              case body2N =>
                rintro l pre t a' V hl hloop hI ⟨Bx, hBx, hcx, rfl⟩ hlt
                have HLP := Lib.hid hloop
                have HLL := Lib.hid hl
                obtain ⟨u, hu⟩ : ∃ u, (toks x)[pre.length]? = some u := ⟨_, List.getElem?_eq_getElem hlt⟩
                obtain ⟨Vd, hVd⟩ : ∃ U, V.drew = U := ⟨_, rfl⟩
                have hId : LI w16 V2 w16.heap.size w16.heap.size (toks x) pre Vd := by rw [← hVd]; exact hI.drew
                have hrel : KeepsFrom V2.heap.size V Vd ∧ KpT w16 V Vd := by rw [← hVd]; exact ⟨(KeepsOthers.drew V).from _, KpT.drew _ _⟩
                have hcd : Vd.heap[Bx]? = some (.cells #[.int .u8 t.f0, .string t.f1, .int .i64 t.f2.f0, .int .i64 t.f2.f1, .int .i64 t.f2.f2, .int .i64 t.f3] 30 (0, 0)) := by rw [← hVd]; exact hcx
                have hta := HTA.out.below (HB2.out.trans (hId.kp.below))
                obtain ⟨ad, rfl, hrow⟩ := tok_at hta.row pre.length u hlt hu
                have HS : Hid (Vd.cell? ⟨w16.heap.size, 0, none⟩ = some (.int .i64 (pre.length : Nat)) ∧ Vd.cell? ⟨w10.heap.size, 0, none⟩ = some (.slice (some ad) (toks x).length c10) ∧ (Vd.cell? ⟨Bx, 0, none⟩ = some (.int .u8 t.f0) ∧ Vd.cell? ⟨Bx, 1, none⟩ = some (.string t.f1) ∧ Vd.cell? ⟨Bx, 2, none⟩ = some (.int .i64 t.f2.f0) ∧ Vd.cell? ⟨Bx, 3, none⟩ = some (.int .i64 t.f2.f1) ∧ Vd.cell? ⟨Bx, 4, none⟩ = some (.int .i64 t.f2.f2) ∧ Vd.cell? ⟨Bx, 5, none⟩ = some (.int .i64 t.f3)) ∧ (Vd.cell? (ad.add (pre.length * 6)) = some (.int .u8 u.f0) ∧ Vd.cell? ⟨(ad.add (pre.length * 6)).block, (ad.add (pre.length * 6)).off + 1, none⟩ = some (.string u.f1) ∧ Vd.cell? ⟨(ad.add (pre.length * 6)).block, (ad.add (pre.length * 6)).off + 2, none⟩ = some (.int .i64 u.f2.f0) ∧ Vd.cell? ⟨(ad.add (pre.length * 6)).block, (ad.add (pre.length * 6)).off + 3, none⟩ = some (.int .i64 u.f2.f1) ∧ Vd.cell? ⟨(ad.add (pre.length * 6)).block, (ad.add (pre.length * 6)).off + 4, none⟩ = some (.int .i64 u.f2.f2) ∧ Vd.cell? ⟨(ad.add (pre.length * 6)).block, (ad.add (pre.length * 6)).off + 5, none⟩ = some (.int .i64 u.f3))) := Lib.hid ⟨hId.box.cell, hta.tks.cell, ⟨cell_of_row _ _ _ _ _ _ hcd, cell_of_row _ _ _ _ _ _ hcd, cell_of_row _ _ _ _ _ _ hcd, cell_of_row _ _ _ _ _ _ hcd, cell_of_row _ _ _ _ _ _ hcd, cell_of_row _ _ _ _ _ _ hcd⟩, hrow⟩
                have HU := Lib.hid hu
                have HIV := Lib.hid hId
                have HREL := Lib.hid hrel
                have HTD := Lib.hid hta
                have HVd := Lib.hid hVd
                have HLT := Lib.hid hlt
                have d1 : decide (((toks x).length : Int) ≤ (pre.length : Int)) = false := decide_eq_false (by omega)
                have d2 : decide ((toks x).length ≤ pre.length) = false := decide_eq_false (by omega)
                have g1 : (0 : Int) ≤ (pre.length : Int) := by omega
                have g2 : (pre.length : Int) < ((toks x).length : Int) := by omega
                have cr := hta.res.cell
                have fr := hta.res.frozen
                have ck := hId.box.cell
                have fk := hId.box.frozen
                clear hI hcx hu hVd hId hrel hcd hta hrow hloop hl
                refine wpIn_block ?_
                repeat refine wpIn_seq ?_
                refine wp_region_RIn (fun w' => w'.cell? ⟨w16.heap.size, 0, none⟩ = some (.int .i64 (pre.length : Nat)) ∧ w'.cell? ⟨w10.heap.size, 0, none⟩ = some (.slice (some ad) (toks x).length c10) ∧ (w'.cell? ⟨Bx, 0, none⟩ = some (.int .u8 t.f0) ∧ w'.cell? ⟨Bx, 1, none⟩ = some (.string t.f1) ∧ w'.cell? ⟨Bx, 2, none⟩ = some (.int .i64 t.f2.f0) ∧ w'.cell? ⟨Bx, 3, none⟩ = some (.int .i64 t.f2.f1) ∧ w'.cell? ⟨Bx, 4, none⟩ = some (.int .i64 t.f2.f2) ∧ w'.cell? ⟨Bx, 5, none⟩ = some (.int .i64 t.f3)) ∧ (w'.cell? (ad.add (pre.length * 6)) = some (.int .u8 u.f0) ∧ w'.cell? ⟨(ad.add (pre.length * 6)).block, (ad.add (pre.length * 6)).off + 1, none⟩ = some (.string u.f1) ∧ w'.cell? ⟨(ad.add (pre.length * 6)).block, (ad.add (pre.length * 6)).off + 2, none⟩ = some (.int .i64 u.f2.f0) ∧ w'.cell? ⟨(ad.add (pre.length * 6)).block, (ad.add (pre.length * 6)).off + 3, none⟩ = some (.int .i64 u.f2.f1) ∧ w'.cell? ⟨(ad.add (pre.length * 6)).block, (ad.add (pre.length * 6)).off + 4, none⟩ = some (.int .i64 u.f2.f2) ∧ w'.cell? ⟨(ad.add (pre.length * 6)).block, (ad.add (pre.length * 6)).off + 5, none⟩ = some (.int .i64 u.f3))) (fun _ => true) (by kernel_rfl) (by kernel_rfl) ?_
                rw [HVd.out]
                refine anyR_take (i := 0) (oi := { dst := some 102, op := .load 3 (.tmp 13), type := 3, pos := "law.go:156", after := #[], guard := none }) (v := ?_) rfl (by kernel_rfl) (fun _ _ _ h => h) (Or.inl ⟨by rfl, ?_⟩) HS.out ?_; rotate_left
                · (intro w9 hSw; (try dsimp only at hSw); go_simp; try (with_reducible rfl))
                try simp only [Act.put, List.setIfInBounds_toArray, List.set_cons_zero, List.set_cons_succ]
                refine anyR_take (i := 1) (oi := { dst := some 103, op := .load 48 (.tmp 11), type := 48, pos := "law.go:156", after := #[], guard := none }) (v := ?_) rfl (by kernel_rfl) (fun _ _ _ h => h) (Or.inl ⟨by rfl, ?_⟩) HS.out ?_; rotate_left
                · (intro w9 hSw; (try dsimp only at hSw); go_simp; try (with_reducible rfl))
                try simp only [Act.put, List.setIfInBounds_toArray, List.set_cons_zero, List.set_cons_succ]
                refine anyR_take (i := 2) (oi := { dst := some 104, op := .call { callee := .builtin .len, args := #[.tmp 103], argTypes := #[48] }, type := 3, pos := "law.go:156", after := #[{ on := 1, ground := .data }], guard := none }) (v := ?_) rfl (by kernel_rfl) (fun _ _ _ h => h) (Or.inl ⟨by rfl, ?_⟩) HS.out ?_; rotate_left
                · (intro w9 hSw; (try dsimp only at hSw); go_simp; try (with_reducible rfl))
                try simp only [Act.put, List.setIfInBounds_toArray, List.set_cons_zero, List.set_cons_succ]
                refine anyR_take (i := 3) (oi := { dst := some 105, op := .binOp .geq 3 (.tmp 102) (.tmp 104) 3, type := 4, pos := "law.go:156", after := #[{ on := 0, ground := .data }, { on := 2, ground := .data }], guard := none }) (v := ?_) rfl (by kernel_rfl) (fun _ _ _ h => h) (Or.inl ⟨by rfl, ?_⟩) HS.out ?_; rotate_left
                · (intro w9 hSw; (try dsimp only at hSw); go_simp; try (with_reducible rfl))
                try simp only [Act.put, List.setIfInBounds_toArray, List.set_cons_zero, List.set_cons_succ]
                refine anyR_take (i := 4) (oi := { dst := some 106, op := .move (.tmp 105), type := 4, pos := "law.go:156", after := #[{ on := 3, ground := .data }], guard := none }) (v := ?_) rfl (by kernel_rfl) (fun _ _ _ h => h) (Or.inl ⟨by rfl, ?_⟩) HS.out ?_; rotate_left
                · (intro w9 hSw; (try dsimp only at hSw); go_simp; try (with_reducible rfl))
                try simp only [Act.put, List.setIfInBounds_toArray, List.set_cons_zero, List.set_cons_succ]
                refine anyR_take (i := 5) (oi := { dst := some 107, op := .load 30 (.tmp 15), type := 30, pos := "law.go:156", after := #[{ on := 4, ground := .guard }], guard := some (4, false) }) (v := ?_) rfl (by kernel_rfl) (fun _ _ _ h => h) (Or.inl ⟨by rfl, ?_⟩) HS.out ?_; rotate_left
                · (intro w9 hSw; (try dsimp only at hSw); go_simp; try (with_reducible rfl))
                try simp only [Act.put, List.setIfInBounds_toArray, List.set_cons_zero, List.set_cons_succ]
                refine anyR_take (i := 6) (oi := { dst := some 108, op := .load 48 (.tmp 11), type := 48, pos := "law.go:156", after := #[{ on := 4, ground := .guard }], guard := some (4, false) }) (v := ?_) rfl (by kernel_rfl) (fun _ _ _ h => h) (Or.inl ⟨by rfl, ?_⟩) HS.out ?_; rotate_left
                · (intro w9 hSw; (try dsimp only at hSw); go_simp; try (with_reducible rfl))
                try simp only [Act.put, List.setIfInBounds_toArray, List.set_cons_zero, List.set_cons_succ]
                refine anyR_take (i := 7) (oi := { dst := some 109, op := .load 3 (.tmp 13), type := 3, pos := "law.go:156", after := #[{ on := 4, ground := .guard }], guard := some (4, false) }) (v := ?_) rfl (by kernel_rfl) (fun _ _ _ h => h) (Or.inl ⟨by rfl, ?_⟩) HS.out ?_; rotate_left
                · (intro w9 hSw; (try dsimp only at hSw); go_simp; try (with_reducible rfl))
                try simp only [Act.put, List.setIfInBounds_toArray, List.set_cons_zero, List.set_cons_succ]
                refine anyR_take (i := 8) (oi := { dst := some 110, op := .indexAddr 48 (.tmp 108) (.tmp 109), type := 0, pos := "law.go:156", after := #[{ on := 6, ground := .data }, { on := 7, ground := .data }, { on := 4, ground := .guard }], guard := some (4, false) }) (v := ?_) rfl (by kernel_rfl) (fun _ _ _ h => h) (Or.inl ⟨by rfl, ?_⟩) HS.out ?_; rotate_left
                · (intro w9 hSw; (try dsimp only at hSw); go_simp; try (with_reducible rfl))
                try simp only [Act.put, List.setIfInBounds_toArray, List.set_cons_zero, List.set_cons_succ]
                refine anyR_take (i := 9) (oi := { dst := some 111, op := .load 30 (.tmp 110), type := 30, pos := "law.go:156", after := #[{ on := 8, ground := .data }, { on := 4, ground := .guard }], guard := some (4, false) }) (v := ?_) rfl (by kernel_rfl) (fun _ _ _ h => h) (Or.inl ⟨by rfl, ?_⟩) HS.out ?_; rotate_left
                · (intro w9 hSw; (try dsimp only at hSw); go_simp; try (with_reducible rfl))
                try simp only [Act.put, List.setIfInBounds_toArray, List.set_cons_zero, List.set_cons_succ]
                by_cases htu : t = u
                · have HTU := Lib.hid htu
                  obtain ⟨b, hbi, hbq⟩ : ∃ b : Bool, (b = false ↔ t = u) ∧ b = false := ⟨false, iff_of_true rfl htu, rfl⟩
                  have HBI := Lib.hid hbi
                  have HBQ := Lib.hid hbq
                  clear htu hbi hbq
                  refine anyR_take (i := 10) (oi := { dst := some 112, op := .binOp .neq 30 (.tmp 107) (.tmp 111) 30, type := 4, pos := "law.go:156", after := #[{ on := 5, ground := .data }, { on := 9, ground := .data }, { on := 4, ground := .guard }], guard := some (4, false) }) (v := .bool b) rfl (by kernel_rfl) (fun _ _ _ h => h) (Or.inl ⟨by rfl, ?_⟩) HS.out ?_
                  · intro w9 hSw; (try dsimp only at hSw); go_simp; exact tk_neq HBI.out w9
                  try simp only [Act.put, List.setIfInBounds_toArray, List.set_cons_zero, List.set_cons_succ]
                  have hbq := HBQ.out
                  subst hbq
                  refine anyR_take (i := 11) (oi := { dst := some 113, op := .pick (.tmp 106) (.const (.bool true)) (.tmp 112), type := 4, pos := "law.go:156", after := #[{ on := 4, ground := .data }, { on := 10, ground := .data }], guard := none }) (v := ?_) rfl (by kernel_rfl) (fun _ _ _ h => h) (Or.inl ⟨by rfl, ?_⟩) HS.out ?_; rotate_left
                  · (intro w9 hSw; (try dsimp only at hSw); go_simp; try (with_reducible rfl))
                  try simp only [Act.put, List.setIfInBounds_toArray, List.set_cons_zero, List.set_cons_succ]
                  refine anyR_done (by kernel_rfl) ?_ _
                  simp only [Exit.then]
                  have hnx : LI w16 V2 w16.heap.size w16.heap.size (toks x) (pre ++ [t]) (Vd.setCell ⟨w16.heap.size, 0, none⟩ (.int .i64 ((pre.length : Int) + 1))) := HIV.out.next (Nat.le_refl _) ((tok_pre HIV.out.pre HU.out).2 HTU.out)
                  have hkk : KeepsFrom V2.heap.size V (Vd.setCell ⟨w16.heap.size, 0, none⟩ (.int .i64 ((pre.length : Int) + 1))) ∧ KpT w16 V (Vd.setCell ⟨w16.heap.size, 0, none⟩ (.int .i64 ((pre.length : Int) + 1))) := ⟨HREL.out.1.trans ((KeepsOthers.setCell _ _ _).from _), HREL.out.2.trans (KpT.setBox _ HIV.out.box (Nat.le_refl _))⟩
                  obtain ⟨Ve, hVe⟩ : ∃ U, Vd.setCell ⟨w16.heap.size, 0, none⟩ (.int .i64 ((pre.length : Int) + 1)) = U := ⟨_, rfl⟩
                  rw [hVe] at hnx hkk
                  have hbk : Boxed Ve w16.heap.size 3 (.int .i64 ((pre.length : Int) + 1)) := by rw [← hVe]; exact HIV.out.box.set _
                  have ek := hbk.cell
                  have HBKe := Lib.hid hbk
                  have HNX9 := Lib.hid hnx
                  have HKK := Lib.hid hkk
                  clear hnx hkk hbk
                  by_cases hek : 2 < (pre.length : Int) + 1
                  · have de : decide (2 < (pre.length : Int) + 1) = true := decide_eq_true hek
                    clear hek
                    gi_wp2
                    exact ⟨HKK.out.1, HKK.out.2, HNX9.out⟩
                  · have de : decide (2 < (pre.length : Int) + 1) = false := decide_eq_false hek
                    clear hek
                    have hbe : Below w16.heap.size w16 Ve := HB2.out.trans HNX9.out.kp.below
                    obtain ⟨Vj, hVj⟩ : ∃ U, Ve.alloc (.cells #[.int .i64 0] 3) = U := ⟨_, rfl⟩
                    have hbj : Boxed Vj Ve.heap.size 3 (.int .i64 0) := by rw [← hVj]; exact Boxed.new _ _ _
                    have cj := hbj.cell
                    have fj := hbj.frozen
                    obtain ⟨Vs, hVs⟩ : ∃ U, Vj.setCell ⟨Ve.heap.size, 0, none⟩ (.int .i64 0) = U := ⟨_, rfl⟩
                    have hbs : Boxed Vs Ve.heap.size 3 (.int .i64 0) := by rw [← hVs]; exact hbj.set _
                    have hbes : Below Ve.heap.size Ve Vs := by rw [← hVs, ← hVj]; exact ((Below.refl _ Ve).alloc (Nat.le_refl _) _).setCell (p := ⟨Ve.heap.size, 0, none⟩) (Nat.le_refl _) _
                    have hkes : KeepsFrom w16.heap.size Ve Vs := by rw [← hVs, ← hVj]; exact ((KeepsOthers.alloc _ _).trans (KeepsOthers.setCell _ _ _)).from _
                    have hb16 : Below w16.heap.size w16 Vs := hbe.trans (hbes.mono hbe.size)
                    have hks : Boxed Vs w16.heap.size 3 (.int .i64 ((pre.length : Int) + 1)) := (hbes.block _ HBKe.out.lt).trans HBKe.out
                    have cs3 := (HTA.out.below hb16).seq.cell
                    obtain ⟨rl, hr⟩ := HLP.out
                    have hrs : Vs.heap[l]? = some (.loop rl) := (hbes.block _ (blk_lt (HKK.out.1.same l _ HLL.out hr rfl))).trans (HKK.out.1.same l _ HLL.out hr rfl)
                    have HRS := Lib.hid hrs
                    have HBS3 := Lib.hid hbs
                    have HBES := Lib.hid hbes
                    have HKES := Lib.hid hkes
                    have HB16 := Lib.hid hb16
                    have HKS := Lib.hid hks
                    clear hbe hbj hbs hbes hkes hb16 hks hr hrs
                    gi_wp2
                    clear cj fj cs3 hVs hVj hVe ek ck fk cr fr de HBI HBQ d1 d2 g1 g2 HS
                    have HSZ : Hid (w16.heap.size ≤ Ve.heap.size ∧ w16.heap.size < Ve.heap.size) := Lib.hid ⟨Nat.le_of_lt HBKe.out.lt, HBKe.out.lt⟩
                    refine wpIn_rangeFunc_ownN (l₀ := l) (r₀ := rl) rfl HRS.out (by decide) (gf := 32) (lb := #[.pointer (some ⟨w11.heap.size, 0, none⟩)]) rfl trivial (enters_of Try.func32 (by kernel_rfl) rfl)
                      ((toks_stops 5 (by decide) w16 x (some ⟨g, 0, none⟩) (x.f2.length + 1) (Nat.le_succ _) (by have := HNX.out; omega) HKC.out w16 (Below.refl _ _) w11.heap.size HTA.out.bn).inRound l)
                      (fun h h' => KpT.trans h h') (fun V l o o' hl h hc _ => KpT.putObj o' (Nat.le_trans HB16.out.size hl) h hc) HB16.out (fun _ => rfl)
                      (fun q U => LI w16 Vs w16.heap.size Ve.heap.size (toks x) q U ∧ Boxed U w16.heap.size 3 (.int .i64 ((pre.length : Int) + 1)))
                      (fun c q U => c = .ret ∧ ¬ q <+: toks x)
                      (OwnFrom.and (LI.own HB16.out.size (Nat.le_refl _)) (Own.from (boxed_own _ _ (fun _ => .int .i64 ((pre.length : Int) + 1))) _)) (fun c => ownFrom_pure _ _)
                      ⟨⟨KpT.refl _ _, KeepsFrom.refl _ _, HBS3.out, List.nil_prefix⟩, HKS.out⟩
                      (fun y a' U => ∃ By, Vs.heap.size ≤ By ∧ U.heap[By]? = some (.cells #[.int .u8 y.f0, .string y.f1, .int .i64 y.f2.f0, .int .i64 y.f2.f1, .int .i64 y.f2.f2, .int .i64 y.f3] 30 (0, 0)) ∧ a' = { tmps := #[.agg #[.int .u8 x.f0, .int .u8 x.f1.f0, .string x.f1.f1, .int .i64 x.f1.f2.f0, .int .i64 x.f1.f2.f1, .int .i64 x.f1.f2.f2, .int .i64 x.f1.f3, .slice A x.f2.length c], .int .i64 ea, .pointer (some ⟨W.heap.size, 0, none⟩), .pointer (some ⟨W.heap.size + 1, 0, none⟩), .pointer (some ⟨W.heap.size + 1 + 1, 0, none⟩), .bool true, .pointer (some ⟨w4.heap.size, 0, none⟩), .slice (some ⟨g6, 0, none⟩) (tells x).length c6, .slice A7 (tells x).length c7, .bool true, .int .i64 ↑i, .pointer (some ⟨w10.heap.size, 0, none⟩), .pointer (some ⟨w12.heap.size, 0, none⟩), .pointer (some ⟨w16.heap.size, 0, none⟩), undef, .pointer (some ⟨Bx, 0, none⟩), .pointer (some ⟨Ve.heap.size, 0, none⟩), .pointer (some ⟨By, 0, none⟩), undef, .bool true, .bool true, .bool false, .bool false, .agg #[.int .u8 x.f0, .int .u8 x.f1.f0, .string x.f1.f1, .int .i64 x.f1.f2.f0, .int .i64 x.f1.f2.f1, .int .i64 x.f1.f2.f2, .int .i64 x.f1.f3, .slice A x.f2.length c], .int .i64 r, .bool false, .bool false, undef, .agg #[.int .u8 x.f0, .int .u8 x.f1.f0, .string x.f1.f1, .int .i64 x.f1.f2.f0, .int .i64 x.f1.f2.f1, .int .i64 x.f1.f2.f2, .int .i64 x.f1.f3, .slice A x.f2.length c], .agg #[.int .u8 x.f0, .int .u8 x.f1.f0, .string x.f1.f1, .int .i64 x.f1.f2.f0, .int .i64 x.f1.f2.f1, .int .i64 x.f1.f2.f2, .int .i64 x.f1.f3, .slice (some ⟨g, 0, none⟩) x.f2.length (x.f2.length + 1)], .agg #[.int .u8 x.f0, .int .u8 x.f1.f0, .string x.f1.f1, .int .i64 x.f1.f2.f0, .int .i64 x.f1.f2.f1, .int .i64 x.f1.f2.f2, .int .i64 x.f1.f3, .slice (some ⟨g, 0, none⟩) x.f2.length (x.f2.length + 1)], .slice (some ⟨g6, 0, none⟩) (tells x).length c6, .agg #[.int .u8 x.f0, .int .u8 x.f1.f0, .string x.f1.f1, .int .i64 x.f1.f2.f0, .int .i64 x.f1.f2.f1, .int .i64 x.f1.f2.f2, .int .i64 x.f1.f3, .slice A x.f2.length c], .slice A7 (tells x).length c7, .slice (some ⟨g6, 0, none⟩) (tells x).length c6, .slice A7 (tells x).length c7, .bool true, .int .i64 ↑i, .slice (some ⟨g6, 0, none⟩) (tells x).length c6, .int .i64 ↑(tells x).length, .bool false, u41, u42, u43, u44, u45, u46, .agg #[.int .u8 x.f0, .int .u8 x.f1.f0, .string x.f1.f1, .int .i64 x.f1.f2.f0, .int .i64 x.f1.f2.f1, .int .i64 x.f1.f2.f2, .int .i64 x.f1.f3, .slice A x.f2.length c], .slice (some ad) (toks x).length c10, .agg #[.int .u8 x.f0, .int .u8 x.f1.f0, .string x.f1.f1, .int .i64 x.f1.f2.f0, .int .i64 x.f1.f2.f1, .int .i64 x.f1.f2.f2, .int .i64 x.f1.f3, .slice (some ⟨g, 0, none⟩) x.f2.length (x.f2.length + 1)], .func (.func 32) #[] #[.pointer (some ⟨w11.heap.size, 0, none⟩)], .func (.func 32) #[] #[.pointer (some ⟨w11.heap.size, 0, none⟩)], .bool false, .bool false, .bool true, .bool false, .bool false, .bool false, .agg #[.int .u8 x.f0, .int .u8 x.f1.f0, .string x.f1.f1, .int .i64 x.f1.f2.f0, .int .i64 x.f1.f2.f1, .int .i64 x.f1.f2.f2, .int .i64 x.f1.f3, .slice (some ⟨g, 0, none⟩) x.f2.length (x.f2.length + 1)], .int .i64 ↑(dep x), .agg #[.int .u8 x.f0, .int .u8 x.f1.f0, .string x.f1.f1, .int .i64 x.f1.f2.f0, .int .i64 x.f1.f2.f1, .int .i64 x.f1.f2.f2, .int .i64 x.f1.f3, .slice A x.f2.length c], .int .i64 ↑(dep x), .bool false, .bool false, .int .i64 ea, .bool true, .int .i64 ea, .int .i64 (ea + 1), .int .i64 (-(ea + 1)), .int .i64 (-(ea + 1)), .slice (some ad) (toks x).length c10, .int .i64 ↑(toks x).length, .int .i64 (↑(toks x).length + 1), .int .i64 E, .func (.func 32) #[] #[.pointer (some ⟨w11.heap.size, 0, none⟩)], undef, undef, undef, undef, undef, undef, undef, undef, undef, undef, undef, undef, undef, undef, undef, undef, undef, undef, .int .i64 E, u94, u95, u96, u97, u98, .bool false, .func (.func 32) #[] #[.pointer (some ⟨w11.heap.size, 0, none⟩)], .agg #[.int .u8 t.f0, .string t.f1, .int .i64 t.f2.f0, .int .i64 t.f2.f1, .int .i64 t.f2.f2, .int .i64 t.f3], .int .i64 ↑pre.length, .slice (some ad) (toks x).length c10, .int .i64 ↑(toks x).length, .bool false, .bool false, .agg #[.int .u8 t.f0, .string t.f1, .int .i64 t.f2.f0, .int .i64 t.f2.f1, .int .i64 t.f2.f2, .int .i64 t.f3], .slice (some ad) (toks x).length c10, .int .i64 ↑pre.length, .pointer (some (ad.add (pre.length * 6))), .agg #[.int .u8 u.f0, .string u.f1, .int .i64 u.f2.f0, .int .i64 u.f2.f1, .int .i64 u.f2.f2, .int .i64 u.f3], .bool false, .bool false, .int .i64 ↑pre.length, .int .i64 (↑pre.length + 1), .int .i64 (↑pre.length + 1), .bool false, .func (.func 32) #[] #[.pointer (some ⟨w11.heap.size, 0, none⟩)], .agg #[.int .u8 y.f0, .string y.f1, .int .i64 y.f2.f0, .int .i64 y.f2.f1, .int .i64 y.f2.f2, .int .i64 y.f3], undef, undef, undef, undef, undef, undef, undef, undef, undef, undef, undef, undef, undef, undef, undef, undef, undef, undef, undef, undef, undef, undef, undef, undef, undef, undef, undef, undef], defers := [] }) ?hAx3N ?assign3N ?body3N ?done3N ?stop3N
                    case hAx3N =>
                      rintro y a' _ X Y row ⟨By, h1, h2, h3⟩ hg hr
                      refine ⟨By, h1, (hg.block By (Array.getElem?_eq_some_iff.1 h2).1 fun e => ?_).trans h2, h3⟩
                      obtain ⟨_, o, ho, hc⟩ := hr By e.symm
                      rw [h2] at ho; cases ho; cases hc
                    case assign3N =>
                      rintro l2 q y U K hI hK
                      unfold tkV
                      gi_wp2
                      exact hK _ _ ((KeepsOthers.alloc _ _).from _) (KpT.alloc (Nat.le_trans HB16.out.size hI.1.keeps.size) _) ⟨hI.1.alloc HB16.out.size _, hI.2.alloc _⟩ ⟨U.heap.size, hI.1.keeps.size, World.alloc_heap_new _ _, rfl⟩
                    case body3N =>
                      rintro l2 q y a' U hl hloop ⟨hI, hbu⟩ ⟨By, hBy, hcx, rfl⟩ hlt
                      obtain ⟨z, hz⟩ : ∃ z, (toks x)[q.length]? = some z := ⟨_, List.getElem?_eq_getElem hlt⟩
                      obtain ⟨Ud, hUd⟩ : ∃ X, U.drew = X := ⟨_, rfl⟩
                      have hId : LI w16 Vs w16.heap.size Ve.heap.size (toks x) q Ud := by rw [← hUd]; exact hI.drew
                      have hrel : KeepsFrom Vs.heap.size U Ud ∧ KpT w16 U Ud := by rw [← hUd]; exact ⟨(KeepsOthers.drew U).from _, KpT.drew _ _⟩
                      have hcd : Ud.heap[By]? = some (.cells #[.int .u8 y.f0, .string y.f1, .int .i64 y.f2.f0, .int .i64 y.f2.f1, .int .i64 y.f2.f2, .int .i64 y.f3] 30 (0, 0)) := by rw [← hUd]; exact hcx
                      have hbd : Boxed Ud w16.heap.size 3 (.int .i64 ((pre.length : Int) + 1)) := by rw [← hUd]; exact hbu
                      have hta := HTA.out.below (HB16.out.trans (hId.kp.below))
                      obtain ⟨ad2, had, hrow⟩ := tok_at hta.row q.length z hlt hz
                      rw [← (Option.some.inj had)] at hrow
                      have HS : Hid (Ud.cell? ⟨Ve.heap.size, 0, none⟩ = some (.int .i64 (q.length : Nat)) ∧ Ud.cell? ⟨w10.heap.size, 0, none⟩ = some (.slice (some ad) (toks x).length c10) ∧ (Ud.cell? ⟨By, 0, none⟩ = some (.int .u8 y.f0) ∧ Ud.cell? ⟨By, 1, none⟩ = some (.string y.f1) ∧ Ud.cell? ⟨By, 2, none⟩ = some (.int .i64 y.f2.f0) ∧ Ud.cell? ⟨By, 3, none⟩ = some (.int .i64 y.f2.f1) ∧ Ud.cell? ⟨By, 4, none⟩ = some (.int .i64 y.f2.f2) ∧ Ud.cell? ⟨By, 5, none⟩ = some (.int .i64 y.f3)) ∧ (Ud.cell? (ad.add (q.length * 6)) = some (.int .u8 z.f0) ∧ Ud.cell? ⟨(ad.add (q.length * 6)).block, (ad.add (q.length * 6)).off + 1, none⟩ = some (.string z.f1) ∧ Ud.cell? ⟨(ad.add (q.length * 6)).block, (ad.add (q.length * 6)).off + 2, none⟩ = some (.int .i64 z.f2.f0) ∧ Ud.cell? ⟨(ad.add (q.length * 6)).block, (ad.add (q.length * 6)).off + 3, none⟩ = some (.int .i64 z.f2.f1) ∧ Ud.cell? ⟨(ad.add (q.length * 6)).block, (ad.add (q.length * 6)).off + 4, none⟩ = some (.int .i64 z.f2.f2) ∧ Ud.cell? ⟨(ad.add (q.length * 6)).block, (ad.add (q.length * 6)).off + 5, none⟩ = some (.int .i64 z.f3))) := Lib.hid ⟨hId.box.cell, hta.tks.cell, ⟨cell_of_row _ _ _ _ _ _ hcd, cell_of_row _ _ _ _ _ _ hcd, cell_of_row _ _ _ _ _ _ hcd, cell_of_row _ _ _ _ _ _ hcd, cell_of_row _ _ _ _ _ _ hcd, cell_of_row _ _ _ _ _ _ hcd⟩, hrow⟩
                      have HUZ := Lib.hid hz
                      have HIU := Lib.hid hId
                      have HREU := Lib.hid hrel
                      have HKU := Lib.hid hbd
                      have HUd := Lib.hid hUd
                      have d1 : decide (((toks x).length : Int) ≤ (q.length : Int)) = false := decide_eq_false (by omega)
                      have d2 : decide ((toks x).length ≤ q.length) = false := decide_eq_false (by omega)
                      have g1 : (0 : Int) ≤ (q.length : Int) := by omega
                      have g2 : (q.length : Int) < ((toks x).length : Int) := by omega
                      have cr := hta.res.cell
                      have fr := hta.res.frozen
                      have ck := hId.box.cell
                      have fk := hId.box.frozen
                      clear hI hbu hcx hz hUd hId hrel hcd hbd hta hrow had hloop hl
                      refine wpIn_block ?_
                      repeat refine wpIn_seq ?_
                      refine wp_region_RIn (fun w' => w'.cell? ⟨Ve.heap.size, 0, none⟩ = some (.int .i64 (q.length : Nat)) ∧ w'.cell? ⟨w10.heap.size, 0, none⟩ = some (.slice (some ad) (toks x).length c10) ∧ (w'.cell? ⟨By, 0, none⟩ = some (.int .u8 y.f0) ∧ w'.cell? ⟨By, 1, none⟩ = some (.string y.f1) ∧ w'.cell? ⟨By, 2, none⟩ = some (.int .i64 y.f2.f0) ∧ w'.cell? ⟨By, 3, none⟩ = some (.int .i64 y.f2.f1) ∧ w'.cell? ⟨By, 4, none⟩ = some (.int .i64 y.f2.f2) ∧ w'.cell? ⟨By, 5, none⟩ = some (.int .i64 y.f3)) ∧ (w'.cell? (ad.add (q.length * 6)) = some (.int .u8 z.f0) ∧ w'.cell? ⟨(ad.add (q.length * 6)).block, (ad.add (q.length * 6)).off + 1, none⟩ = some (.string z.f1) ∧ w'.cell? ⟨(ad.add (q.length * 6)).block, (ad.add (q.length * 6)).off + 2, none⟩ = some (.int .i64 z.f2.f0) ∧ w'.cell? ⟨(ad.add (q.length * 6)).block, (ad.add (q.length * 6)).off + 3, none⟩ = some (.int .i64 z.f2.f1) ∧ w'.cell? ⟨(ad.add (q.length * 6)).block, (ad.add (q.length * 6)).off + 4, none⟩ = some (.int .i64 z.f2.f2) ∧ w'.cell? ⟨(ad.add (q.length * 6)).block, (ad.add (q.length * 6)).off + 5, none⟩ = some (.int .i64 z.f3))) (fun _ => true) (by kernel_rfl) (by kernel_rfl) ?_
                      rw [HUd.out]
                      refine anyR_take (i := 0) (oi := { dst := some 120, op := .load 3 (.tmp 16), type := 3, pos := "law.go:165", after := #[], guard := none }) (v := ?_) rfl (by kernel_rfl) (fun _ _ _ h => h) (Or.inl ⟨by rfl, ?_⟩) HS.out ?_; rotate_left
                      · (intro w9 hSw; (try dsimp only at hSw); go_simp; try (with_reducible rfl))
                      try simp only [Act.put, List.setIfInBounds_toArray, List.set_cons_zero, List.set_cons_succ]
                      refine anyR_take (i := 1) (oi := { dst := some 121, op := .load 48 (.tmp 11), type := 48, pos := "law.go:165", after := #[], guard := none }) (v := ?_) rfl (by kernel_rfl) (fun _ _ _ h => h) (Or.inl ⟨by rfl, ?_⟩) HS.out ?_; rotate_left
                      · (intro w9 hSw; (try dsimp only at hSw); go_simp; try (with_reducible rfl))
                      try simp only [Act.put, List.setIfInBounds_toArray, List.set_cons_zero, List.set_cons_succ]
                      refine anyR_take (i := 2) (oi := { dst := some 122, op := .call { callee := .builtin .len, args := #[.tmp 121], argTypes := #[48] }, type := 3, pos := "law.go:165", after := #[{ on := 1, ground := .data }], guard := none }) (v := ?_) rfl (by kernel_rfl) (fun _ _ _ h => h) (Or.inl ⟨by rfl, ?_⟩) HS.out ?_; rotate_left
                      · (intro w9 hSw; (try dsimp only at hSw); go_simp; try (with_reducible rfl))
                      try simp only [Act.put, List.setIfInBounds_toArray, List.set_cons_zero, List.set_cons_succ]
                      refine anyR_take (i := 3) (oi := { dst := some 123, op := .binOp .geq 3 (.tmp 120) (.tmp 122) 3, type := 4, pos := "law.go:165", after := #[{ on := 0, ground := .data }, { on := 2, ground := .data }], guard := none }) (v := ?_) rfl (by kernel_rfl) (fun _ _ _ h => h) (Or.inl ⟨by rfl, ?_⟩) HS.out ?_; rotate_left
                      · (intro w9 hSw; (try dsimp only at hSw); go_simp; try (with_reducible rfl))
                      try simp only [Act.put, List.setIfInBounds_toArray, List.set_cons_zero, List.set_cons_succ]
                      refine anyR_take (i := 4) (oi := { dst := some 124, op := .move (.tmp 123), type := 4, pos := "law.go:165", after := #[{ on := 3, ground := .data }], guard := none }) (v := ?_) rfl (by kernel_rfl) (fun _ _ _ h => h) (Or.inl ⟨by rfl, ?_⟩) HS.out ?_; rotate_left
                      · (intro w9 hSw; (try dsimp only at hSw); go_simp; try (with_reducible rfl))
                      try simp only [Act.put, List.setIfInBounds_toArray, List.set_cons_zero, List.set_cons_succ]
                      refine anyR_take (i := 5) (oi := { dst := some 125, op := .load 30 (.tmp 17), type := 30, pos := "law.go:165", after := #[{ on := 4, ground := .guard }], guard := some (4, false) }) (v := ?_) rfl (by kernel_rfl) (fun _ _ _ h => h) (Or.inl ⟨by rfl, ?_⟩) HS.out ?_; rotate_left
                      · (intro w9 hSw; (try dsimp only at hSw); go_simp; try (with_reducible rfl))
                      try simp only [Act.put, List.setIfInBounds_toArray, List.set_cons_zero, List.set_cons_succ]
                      refine anyR_take (i := 6) (oi := { dst := some 126, op := .load 48 (.tmp 11), type := 48, pos := "law.go:165", after := #[{ on := 4, ground := .guard }], guard := some (4, false) }) (v := ?_) rfl (by kernel_rfl) (fun _ _ _ h => h) (Or.inl ⟨by rfl, ?_⟩) HS.out ?_; rotate_left
                      · (intro w9 hSw; (try dsimp only at hSw); go_simp; try (with_reducible rfl))
                      try simp only [Act.put, List.setIfInBounds_toArray, List.set_cons_zero, List.set_cons_succ]
                      refine anyR_take (i := 7) (oi := { dst := some 127, op := .load 3 (.tmp 16), type := 3, pos := "law.go:165", after := #[{ on := 4, ground := .guard }], guard := some (4, false) }) (v := ?_) rfl (by kernel_rfl) (fun _ _ _ h => h) (Or.inl ⟨by rfl, ?_⟩) HS.out ?_; rotate_left
                      · (intro w9 hSw; (try dsimp only at hSw); go_simp; try (with_reducible rfl))
                      try simp only [Act.put, List.setIfInBounds_toArray, List.set_cons_zero, List.set_cons_succ]
                      refine anyR_take (i := 8) (oi := { dst := some 128, op := .indexAddr 48 (.tmp 126) (.tmp 127), type := 0, pos := "law.go:165", after := #[{ on := 6, ground := .data }, { on := 7, ground := .data }, { on := 4, ground := .guard }], guard := some (4, false) }) (v := ?_) rfl (by kernel_rfl) (fun _ _ _ h => h) (Or.inl ⟨by rfl, ?_⟩) HS.out ?_; rotate_left
                      · (intro w9 hSw; (try dsimp only at hSw); go_simp; try (with_reducible rfl))
                      try simp only [Act.put, List.setIfInBounds_toArray, List.set_cons_zero, List.set_cons_succ]
                      refine anyR_take (i := 9) (oi := { dst := some 129, op := .load 30 (.tmp 128), type := 30, pos := "law.go:165", after := #[{ on := 8, ground := .data }, { on := 4, ground := .guard }], guard := some (4, false) }) (v := ?_) rfl (by kernel_rfl) (fun _ _ _ h => h) (Or.inl ⟨by rfl, ?_⟩) HS.out ?_; rotate_left
                      · (intro w9 hSw; (try dsimp only at hSw); go_simp; try (with_reducible rfl))
                      try simp only [Act.put, List.setIfInBounds_toArray, List.set_cons_zero, List.set_cons_succ]
                      by_cases htu : y = z
                      · have HTU := Lib.hid htu
                        obtain ⟨b, hbi, hbq⟩ : ∃ b : Bool, (b = false ↔ y = z) ∧ b = false := ⟨false, iff_of_true rfl htu, rfl⟩
                        have HBI := Lib.hid hbi
                        have HBQ := Lib.hid hbq
                        clear htu hbi hbq
                        refine anyR_take (i := 10) (oi := { dst := some 130, op := .binOp .neq 30 (.tmp 125) (.tmp 129) 30, type := 4, pos := "law.go:165", after := #[{ on := 5, ground := .data }, { on := 9, ground := .data }, { on := 4, ground := .guard }], guard := some (4, false) }) (v := .bool b) rfl (by kernel_rfl) (fun _ _ _ h => h) (Or.inl ⟨by rfl, ?_⟩) HS.out ?_
                        · intro w9 hSw; (try dsimp only at hSw); go_simp; exact tk_neq HBI.out w9
                        try simp only [Act.put, List.setIfInBounds_toArray, List.set_cons_zero, List.set_cons_succ]
                        have hbq := HBQ.out
                        subst hbq
                        refine anyR_take (i := 11) (oi := { dst := some 131, op := .pick (.tmp 124) (.const (.bool true)) (.tmp 130), type := 4, pos := "law.go:165", after := #[{ on := 4, ground := .data }, { on := 10, ground := .data }], guard := none }) (v := ?_) rfl (by kernel_rfl) (fun _ _ _ h => h) (Or.inl ⟨by rfl, ?_⟩) HS.out ?_; rotate_left
                        · (intro w9 hSw; (try dsimp only at hSw); go_simp; try (with_reducible rfl))
                        try simp only [Act.put, List.setIfInBounds_toArray, List.set_cons_zero, List.set_cons_succ]
                        refine anyR_done (by kernel_rfl) ?_ _
                        simp only [Exit.then]
                        have hnx : LI w16 Vs w16.heap.size Ve.heap.size (toks x) (q ++ [y]) (Ud.setCell ⟨Ve.heap.size, 0, none⟩ (.int .i64 ((q.length : Int) + 1))) := HIU.out.next HSZ.out.1 ((tok_pre HIU.out.pre HUZ.out).2 HTU.out)
                        have hkk : KeepsFrom Vs.heap.size U (Ud.setCell ⟨Ve.heap.size, 0, none⟩ (.int .i64 ((q.length : Int) + 1))) ∧ KpT w16 U (Ud.setCell ⟨Ve.heap.size, 0, none⟩ (.int .i64 ((q.length : Int) + 1))) := ⟨HREU.out.1.trans ((KeepsOthers.setCell _ _ _).from _), HREU.out.2.trans (KpT.setBox _ HIU.out.box HSZ.out.1)⟩
                        have hbk := HKU.out.other (show w16.heap.size ≠ Ve.heap.size by have := HSZ.out.2; omega) (.int .i64 ((q.length : Int) + 1))
                        have HFIN := Lib.hid (And.intro hkk (And.intro hnx hbk))
                        clear hnx hkk hbk
                        gi_wp2
                        exact ⟨HFIN.out.1.1, HFIN.out.1.2, HFIN.out.2.1, HFIN.out.2.2⟩
                      · have HTU := Lib.hid htu
                        obtain ⟨b, hbi, hbq⟩ : ∃ b : Bool, (b = false ↔ y = z) ∧ b = true := ⟨true, iff_of_false Bool.noConfusion htu, rfl⟩
                        have HBI := Lib.hid hbi
                        have HBQ := Lib.hid hbq
                        clear htu hbi hbq
                        refine anyR_take (i := 10) (oi := { dst := some 130, op := .binOp .neq 30 (.tmp 125) (.tmp 129) 30, type := 4, pos := "law.go:165", after := #[{ on := 5, ground := .data }, { on := 9, ground := .data }, { on := 4, ground := .guard }], guard := some (4, false) }) (v := .bool b) rfl (by kernel_rfl) (fun _ _ _ h => h) (Or.inl ⟨by rfl, ?_⟩) HS.out ?_
                        · intro w9 hSw; (try dsimp only at hSw); go_simp; exact tk_neq HBI.out w9
                        try simp only [Act.put, List.setIfInBounds_toArray, List.set_cons_zero, List.set_cons_succ]
                        have hbq := HBQ.out
                        subst hbq
                        refine anyR_take (i := 11) (oi := { dst := some 131, op := .pick (.tmp 124) (.const (.bool true)) (.tmp 130), type := 4, pos := "law.go:165", after := #[{ on := 4, ground := .data }, { on := 10, ground := .data }], guard := none }) (v := ?_) rfl (by kernel_rfl) (fun _ _ _ h => h) (Or.inl ⟨by rfl, ?_⟩) HS.out ?_; rotate_left
                        · (intro w9 hSw; (try dsimp only at hSw); go_simp; try (with_reducible rfl))
                        try simp only [Act.put, List.setIfInBounds_toArray, List.set_cons_zero, List.set_cons_succ]
                        refine anyR_done (by kernel_rfl) ?_ _
                        simp only [Exit.then]
                        gi_wp2
                        exact ⟨HREU.out.1.trans ((KeepsOthers.setCell _ _ _).from _), rfl, fun h => HTU.out ((tok_pre HIU.out.pre HUZ.out).1 h)⟩
                    case done3N =>
                      rintro ys U rfl ⟨hL, hk⟩
                      have hta := HTA.out.below (HB16.out.trans hL.kp.below)
                      have ct := hta.tks.cell
                      have cj := hL.box.cell
                      have hall : KeepsFrom V2.heap.size V U ∧ KpT w16 V U ∧ LI w16 V2 w16.heap.size w16.heap.size (toks x) (pre ++ [t]) U := by
                        have hkp : KpT w16 Ve U := (KpT.of_below HBES.out HSZ.out.1).trans hL.kp
                        have hke : KeepsFrom w16.heap.size Ve U := HKES.out.trans hL.keeps
                        have hke2 : KeepsFrom V2.heap.size Ve U := ⟨hke.size, fun k o hk => hke.same k o (Nat.le_trans HB2.out.size hk)⟩
                        refine ⟨HKK.out.1.trans hke2, HKK.out.2.trans hkp, HNX9.out.kp.trans hkp, HNX9.out.keeps.trans hke, ?_, HNX9.out.pre⟩
                        have hl : (((pre ++ [t]).length : Nat) : Int) = (pre.length : Int) + 1 := by simp
                        rw [hl]
                        exact hk
                      have HALL := Lib.hid hall
                      clear hall hta hL hk
                      gi_wp2
                      exact HALL.out
                    case stop3N =>
                      rintro c' q U hq ⟨rfl, hbad⟩
                      exact absurd hq hbad
                · have HTU := Lib.hid htu
                  obtain ⟨b, hbi, hbq⟩ : ∃ b : Bool, (b = false ↔ t = u) ∧ b = true := ⟨true, iff_of_false Bool.noConfusion htu, rfl⟩
                  have HBI := Lib.hid hbi
                  have HBQ := Lib.hid hbq
                  clear htu hbi hbq
                  refine anyR_take (i := 10) (oi := { dst := some 112, op := .binOp .neq 30 (.tmp 107) (.tmp 111) 30, type := 4, pos := "law.go:156", after := #[{ on := 5, ground := .data }, { on := 9, ground := .data }, { on := 4, ground := .guard }], guard := some (4, false) }) (v := .bool b) rfl (by kernel_rfl) (fun _ _ _ h => h) (Or.inl ⟨by rfl, ?_⟩) HS.out ?_
                  · intro w9 hSw; (try dsimp only at hSw); go_simp; exact tk_neq HBI.out w9
                  try simp only [Act.put, List.setIfInBounds_toArray, List.set_cons_zero, List.set_cons_succ]
                  have hbq := HBQ.out
                  subst hbq
                  refine anyR_take (i := 11) (oi := { dst := some 113, op := .pick (.tmp 106) (.const (.bool true)) (.tmp 112), type := 4, pos := "law.go:156", after := #[{ on := 4, ground := .data }, { on := 10, ground := .data }], guard := none }) (v := ?_) rfl (by kernel_rfl) (fun _ _ _ h => h) (Or.inl ⟨by rfl, ?_⟩) HS.out ?_; rotate_left
                  · (intro w9 hSw; (try dsimp only at hSw); go_simp; try (with_reducible rfl))
                  try simp only [Act.put, List.setIfInBounds_toArray, List.set_cons_zero, List.set_cons_succ]
                  refine anyR_done (by kernel_rfl) ?_ _
                  simp only [Exit.then]
                  gi_wp2
                  exact ⟨HREL.out.1.trans ((KeepsOthers.setCell _ _ _).from _), rfl, fun h => HTU.out ((tok_pre HIV.out.pre HU.out).1 h)⟩
              case done2N =>
                rintro D2 ys V hD2 rfl hI hDef2
                simp only [Exit.inBlock, Exit.then]
                have hta := HTA.out.below (HB2.out.trans hI.kp.below)
                have hDV : V.heap[D]? = some (.deferred (some [])) := hI.keeps.same D _ (Nat.le_of_lt HDW.out) HD2.out rfl
                have hDlt := blk_lt HD2.out
                have hbWV : Below W.heap.size W V := HBW.out.trans ((HB2.out.trans hI.kp.below).mono HBW.out.size)
                have HKE := Lib.hid (kept_any (nds x) x A c g w3.heap.size V (Nat.le_refl _) (by have := HNX.out; omega) HLC.out hta.kid hta.cop)
                have HTV := Lib.hid hta
                have HIB := Lib.hid hI.box
                have HDV := Lib.hid (And.intro hDV hDef2)
                have HNE : Hid (w16.heap.size < D ∧ D < D2 ∧ W.heap.size + 1 + 1 < w16.heap.size) := Lib.hid ⟨HDW.out, by omega, HZ.out⟩
                have HWV := Lib.hid hbWV
                obtain ⟨p0, p1, p2, p3, p4, p5, p6, p7⟩ := nd_box hta.bx V (Below.refl _ _)
                obtain ⟨q0, q1, q2, q3, q4, q5, q6, q7⟩ := nd_box hta.bm V (Below.refl _ _)
                clear hta hDV hDef2 hDlt hbWV hI hD2
                gi_wp2_with (refine ⟨trivial, ?_⟩; gi_at_call 18; refine (callsIn_wide.2 HKE.out).mono ?_; rintro e U ⟨rfl, hbU⟩; have HBU := Lib.hid hbU; have htU := HTV.out.below hbU; have ckU := Boxed.cell ((hbU.block _ HIB.out.lt).trans HIB.out); have ctU := htU.tks.cell; have crU := htU.res.cell; have frU := htU.res.frozen; have HTU := Lib.hid htU; clear htU hbU q0 q1 q2 q3 q4 q5 q6 q7 p0 p1 p2 p3 p4 p5 p6 p7)
                obtain ⟨n1, n2, n3⟩ := HNE.out
                have hd2 : (U.setCell ⟨W.heap.size + 1 + 1, 0, none⟩ (.bool true)).heap[D2]? = some (.deferred (some [])) := ((grownBy_setCell' U _ _).block D2 (Nat.lt_of_lt_of_le (blk_lt HDV.out.2) HBU.out.size) (fun e => by cases e; omega)).trans ((HBU.out.block _ (blk_lt HDV.out.2)).trans HDV.out.2)
                have hd1 : (U.setCell ⟨W.heap.size + 1 + 1, 0, none⟩ (.bool true)).heap[D]? = some (.deferred (some [])) := ((grownBy_setCell' U _ _).block D (Nat.lt_of_lt_of_le (blk_lt HDV.out.1) HBU.out.size) (fun e => by cases e; omega)).trans ((HBU.out.block _ (blk_lt HDV.out.1)).trans HDV.out.1)
                have hbf : Below W.heap.size W (U.setCell ⟨W.heap.size + 1 + 1, 0, none⟩ (.bool true)) := (HWV.out.trans (HBU.out.mono HWV.out.size)).setCell (p := ⟨W.heap.size + 1 + 1, 0, none⟩) (show W.heap.size ≤ W.heap.size + 1 + 1 by omega) _
                have hrf := HTU.out.res.set (.bool true)
                obtain ⟨Uf, hUf⟩ : ∃ X, U.setCell ⟨W.heap.size + 1 + 1, 0, none⟩ (.bool true) = X := ⟨_, rfl⟩
                rw [hUf] at hd2 hd1 hbf hrf
                try rw [hUf]
                have hz := hbf.size
                refine same_leave (b := true) rfl rfl hd2 hd1 (by omega) hrf ⟨rfl, ?_⟩
                exact (hbf.grown (grownBy_putObj' _ D2 _) hz (fun j e => by cases e; omega)).grown (grownBy_putObj' _ D _) (Nat.le_trans hz (grownBy_putObj' _ D2 _).size) (fun j e => by cases e; omega)
              case stop2N =>
                rintro D2 c' pre V hD2 hpre ⟨rfl, hbad⟩ hDef2
                exact absurd hpre hbad
          case loopN =>
            refine wpIn_rangeFunc_ownH rfl (by decide) (gf := 32) (lb := #[.pointer (some ⟨w11.heap.size, 0, none⟩)]) rfl trivial (enters_of Try.func32 (by kernel_rfl) rfl)
              (toks_stops 7 (by decide) w16 x (some ⟨g, 0, none⟩) (x.f2.length + 1) (Nat.le_succ _) (by have := HNX.out; omega) HKC.out w16 (Below.refl _ _) w11.heap.size HTA.out.bn)
              (fun h h' => KpT.trans h h') (fun V l o o' hl h hc _ => KpT.putObj o' (Nat.le_trans HB18.out.size hl) h hc) HB18.out (fun _ => rfl)
              (fun pre V => LI w16 w18 w18.heap.size w16.heap.size (toks x) pre V ∧ (E = 0 ∨ (pre.length : Int) < E))
              (fun c pre V => (c = .exit 2 ∧ LI w16 w18 w18.heap.size w16.heap.size (toks x) pre V ∧ ((pre.length : Int) = E ∧ 0 < E)) ∨ (c = .ret ∧ ¬ pre <+: toks x))
              (OwnFrom.and (LI.own HB18.out.size (Nat.le_refl _)) (ownFrom_pure _ _)) (fun c => own_or (LI.own HB18.out.size (Nat.le_refl _)) _ _ _)
              ⟨⟨KpT.refl _ _, KeepsFrom.refl _ _, HK18.out, List.nil_prefix⟩, by have := HE.out.1; simp only [List.length_nil]; omega⟩
              (fun t a' V => ∃ Bx, w18.heap.size ≤ Bx ∧ V.heap[Bx]? = some (.cells #[.int .u8 t.f0, .string t.f1, .int .i64 t.f2.f0, .int .i64 t.f2.f1, .int .i64 t.f2.f2, .int .i64 t.f3] 30 (0, 0)) ∧ a' = { tmps := #[.agg #[.int .u8 x.f0, .int .u8 x.f1.f0, .string x.f1.f1, .int .i64 x.f1.f2.f0, .int .i64 x.f1.f2.f1, .int .i64 x.f1.f2.f2, .int .i64 x.f1.f3, .slice A x.f2.length c], .int .i64 ea, .pointer (some ⟨W.heap.size, 0, none⟩), .pointer (some ⟨W.heap.size + 1, 0, none⟩), .pointer (some ⟨W.heap.size + 1 + 1, 0, none⟩), .bool true, .pointer (some ⟨w4.heap.size, 0, none⟩), .slice (some ⟨g6, 0, none⟩) (tells x).length c6, .slice A7 (tells x).length c7, .bool true, .int .i64 ↑i, .pointer (some ⟨w10.heap.size, 0, none⟩), .pointer (some ⟨w12.heap.size, 0, none⟩), .pointer (some ⟨w16.heap.size, 0, none⟩), .pointer (some ⟨Bx, 0, none⟩), undef, undef, undef, undef, .bool true, .bool true, .bool false, .bool false, .agg #[.int .u8 x.f0, .int .u8 x.f1.f0, .string x.f1.f1, .int .i64 x.f1.f2.f0, .int .i64 x.f1.f2.f1, .int .i64 x.f1.f2.f2, .int .i64 x.f1.f3, .slice A x.f2.length c], .int .i64 r, .bool false, .bool false, undef, .agg #[.int .u8 x.f0, .int .u8 x.f1.f0, .string x.f1.f1, .int .i64 x.f1.f2.f0, .int .i64 x.f1.f2.f1, .int .i64 x.f1.f2.f2, .int .i64 x.f1.f3, .slice A x.f2.length c], .agg #[.int .u8 x.f0, .int .u8 x.f1.f0, .string x.f1.f1, .int .i64 x.f1.f2.f0, .int .i64 x.f1.f2.f1, .int .i64 x.f1.f2.f2, .int .i64 x.f1.f3, .slice (some ⟨g, 0, none⟩) x.f2.length (x.f2.length + 1)], .agg #[.int .u8 x.f0, .int .u8 x.f1.f0, .string x.f1.f1, .int .i64 x.f1.f2.f0, .int .i64 x.f1.f2.f1, .int .i64 x.f1.f2.f2, .int .i64 x.f1.f3, .slice (some ⟨g, 0, none⟩) x.f2.length (x.f2.length + 1)], .slice (some ⟨g6, 0, none⟩) (tells x).length c6, .agg #[.int .u8 x.f0, .int .u8 x.f1.f0, .string x.f1.f1, .int .i64 x.f1.f2.f0, .int .i64 x.f1.f2.f1, .int .i64 x.f1.f2.f2, .int .i64 x.f1.f3, .slice A x.f2.length c], .slice A7 (tells x).length c7, .slice (some ⟨g6, 0, none⟩) (tells x).length c6, .slice A7 (tells x).length c7, .bool true, .int .i64 ↑i, .slice (some ⟨g6, 0, none⟩) (tells x).length c6, .int .i64 ↑(tells x).length, .bool false, u41, u42, u43, u44, u45, u46, .agg #[.int .u8 x.f0, .int .u8 x.f1.f0, .string x.f1.f1, .int .i64 x.f1.f2.f0, .int .i64 x.f1.f2.f1, .int .i64 x.f1.f2.f2, .int .i64 x.f1.f3, .slice A x.f2.length c], .slice A10 (toks x).length c10, .agg #[.int .u8 x.f0, .int .u8 x.f1.f0, .string x.f1.f1, .int .i64 x.f1.f2.f0, .int .i64 x.f1.f2.f1, .int .i64 x.f1.f2.f2, .int .i64 x.f1.f3, .slice (some ⟨g, 0, none⟩) x.f2.length (x.f2.length + 1)], .func (.func 32) #[] #[.pointer (some ⟨w11.heap.size, 0, none⟩)], .func (.func 32) #[] #[.pointer (some ⟨w11.heap.size, 0, none⟩)], .bool false, .bool false, .bool true, .bool false, .bool false, .bool false, .agg #[.int .u8 x.f0, .int .u8 x.f1.f0, .string x.f1.f1, .int .i64 x.f1.f2.f0, .int .i64 x.f1.f2.f1, .int .i64 x.f1.f2.f2, .int .i64 x.f1.f3, .slice (some ⟨g, 0, none⟩) x.f2.length (x.f2.length + 1)], .int .i64 ↑(dep x), .agg #[.int .u8 x.f0, .int .u8 x.f1.f0, .string x.f1.f1, .int .i64 x.f1.f2.f0, .int .i64 x.f1.f2.f1, .int .i64 x.f1.f2.f2, .int .i64 x.f1.f3, .slice A x.f2.length c], .int .i64 ↑(dep x), .bool false, .bool false, .int .i64 ea, .bool true, .int .i64 ea, .int .i64 (ea + 1), .int .i64 (-(ea + 1)), .int .i64 (-(ea + 1)), .slice A10 (toks x).length c10, .int .i64 ↑(toks x).length, .int .i64 (↑(toks x).length + 1), .int .i64 E, .func (.func 32) #[] #[.pointer (some ⟨w11.heap.size, 0, none⟩)], .agg #[.int .u8 t.f0, .string t.f1, .int .i64 t.f2.f0, .int .i64 t.f2.f1, .int .i64 t.f2.f2, .int .i64 t.f3], undef, undef, undef, undef, undef, undef, undef, undef, undef, undef, undef, undef, undef, undef, undef, undef, undef, undef, undef, undef, undef, undef, undef, undef, undef, undef, undef, undef, undef, undef, undef, undef, undef, undef, undef, undef, undef, undef, undef, undef, undef, undef, undef, undef, undef, undef, undef, undef, undef, undef, undef, undef, undef, undef, undef, undef, undef, undef, undef, undef, undef, undef, undef, undef, undef, undef, undef, undef, undef, undef, undef, undef], defers := [] }) ?hAxN ?assignN ?bodyN ?doneN ?stopN
            case hAxN =>
              rintro t a' _ X Y row ⟨Bx, h1, h2, h3⟩ hg hr
              refine ⟨Bx, h1, (hg.block Bx (Array.getElem?_eq_some_iff.1 h2).1 fun e => ?_).trans h2, h3⟩
              obtain ⟨_, o, ho, hc⟩ := hr Bx e.symm
              rw [h2] at ho; cases ho; cases hc
            case assignN =>
              rintro l pre t V K hI hK
              unfold tkV
              gi_wp2
              exact hK _ _ ((KeepsOthers.alloc _ _).from _) (KpT.alloc (Nat.le_trans HB18.out.size hI.1.keeps.size) _) ⟨hI.1.alloc HB18.out.size _, hI.2⟩ ⟨V.heap.size, hI.1.keeps.size, World.alloc_heap_new _ _, rfl⟩
            case bodyN =>
              rintro l pre t a' V hl hloop ⟨hI, hz⟩ ⟨Bx, hBx, hcx, rfl⟩ hlt
              obtain ⟨u, hu⟩ : ∃ u, (toks x)[pre.length]? = some u := ⟨_, List.getElem?_eq_getElem hlt⟩
              obtain ⟨Vd, hVd⟩ : ∃ U, V.drew = U := ⟨_, rfl⟩
              have hId : LI w16 w18 w18.heap.size w16.heap.size (toks x) pre Vd := by rw [← hVd]; exact hI.drew
              have hrel : KeepsFrom w18.heap.size V Vd ∧ KpT w16 V Vd := by rw [← hVd]; exact ⟨(KeepsOthers.drew V).from _, KpT.drew _ _⟩
              have hcd : Vd.heap[Bx]? = some (.cells #[.int .u8 t.f0, .string t.f1, .int .i64 t.f2.f0, .int .i64 t.f2.f1, .int .i64 t.f2.f2, .int .i64 t.f3] 30 (0, 0)) := by rw [← hVd]; exact hcx
              have hta := HTA.out.below (HB18.out.trans (hId.kp.below))
              obtain ⟨ad, rfl, hrow⟩ := tok_at hta.row pre.length u hlt hu
              have HS : Hid (Vd.cell? ⟨w16.heap.size, 0, none⟩ = some (.int .i64 (pre.length : Nat)) ∧ Vd.cell? ⟨w10.heap.size, 0, none⟩ = some (.slice (some ad) (toks x).length c10) ∧ (Vd.cell? ⟨Bx, 0, none⟩ = some (.int .u8 t.f0) ∧ Vd.cell? ⟨Bx, 1, none⟩ = some (.string t.f1) ∧ Vd.cell? ⟨Bx, 2, none⟩ = some (.int .i64 t.f2.f0) ∧ Vd.cell? ⟨Bx, 3, none⟩ = some (.int .i64 t.f2.f1) ∧ Vd.cell? ⟨Bx, 4, none⟩ = some (.int .i64 t.f2.f2) ∧ Vd.cell? ⟨Bx, 5, none⟩ = some (.int .i64 t.f3)) ∧ (Vd.cell? (ad.add (pre.length * 6)) = some (.int .u8 u.f0) ∧ Vd.cell? ⟨(ad.add (pre.length * 6)).block, (ad.add (pre.length * 6)).off + 1, none⟩ = some (.string u.f1) ∧ Vd.cell? ⟨(ad.add (pre.length * 6)).block, (ad.add (pre.length * 6)).off + 2, none⟩ = some (.int .i64 u.f2.f0) ∧ Vd.cell? ⟨(ad.add (pre.length * 6)).block, (ad.add (pre.length * 6)).off + 3, none⟩ = some (.int .i64 u.f2.f1) ∧ Vd.cell? ⟨(ad.add (pre.length * 6)).block, (ad.add (pre.length * 6)).off + 4, none⟩ = some (.int .i64 u.f2.f2) ∧ Vd.cell? ⟨(ad.add (pre.length * 6)).block, (ad.add (pre.length * 6)).off + 5, none⟩ = some (.int .i64 u.f3))) := Lib.hid ⟨hId.box.cell, hta.tks.cell, ⟨cell_of_row _ _ _ _ _ _ hcd, cell_of_row _ _ _ _ _ _ hcd, cell_of_row _ _ _ _ _ _ hcd, cell_of_row _ _ _ _ _ _ hcd, cell_of_row _ _ _ _ _ _ hcd, cell_of_row _ _ _ _ _ _ hcd⟩, hrow⟩
              have HU := Lib.hid hu
              have HIV := Lib.hid hId
              have HZ1 := Lib.hid hz
              have HREL := Lib.hid hrel
              have HTD := Lib.hid hta
              have HVd := Lib.hid hVd
              have HLT := Lib.hid hlt
              have d1 : decide (((toks x).length : Int) ≤ (pre.length : Int)) = false := decide_eq_false (by omega)
              have d2 : decide ((toks x).length ≤ pre.length) = false := decide_eq_false (by omega)
              have g1 : (0 : Int) ≤ (pre.length : Int) := by omega
              have g2 : (pre.length : Int) < ((toks x).length : Int) := by omega
              have cr := hta.res.cell
              have fr := hta.res.frozen
              have ck := hId.box.cell
              have fk := hId.box.frozen
              have ce := hta.early.cell
              clear hI hz hcx hu hVd hId hrel hcd hta hrow hloop hl
              refine wpIn_block ?_
              repeat refine wpIn_seq ?_
              refine wp_region_RIn (fun w' => w'.cell? ⟨w16.heap.size, 0, none⟩ = some (.int .i64 (pre.length : Nat)) ∧ w'.cell? ⟨w10.heap.size, 0, none⟩ = some (.slice (some ad) (toks x).length c10) ∧ (w'.cell? ⟨Bx, 0, none⟩ = some (.int .u8 t.f0) ∧ w'.cell? ⟨Bx, 1, none⟩ = some (.string t.f1) ∧ w'.cell? ⟨Bx, 2, none⟩ = some (.int .i64 t.f2.f0) ∧ w'.cell? ⟨Bx, 3, none⟩ = some (.int .i64 t.f2.f1) ∧ w'.cell? ⟨Bx, 4, none⟩ = some (.int .i64 t.f2.f2) ∧ w'.cell? ⟨Bx, 5, none⟩ = some (.int .i64 t.f3)) ∧ (w'.cell? (ad.add (pre.length * 6)) = some (.int .u8 u.f0) ∧ w'.cell? ⟨(ad.add (pre.length * 6)).block, (ad.add (pre.length * 6)).off + 1, none⟩ = some (.string u.f1) ∧ w'.cell? ⟨(ad.add (pre.length * 6)).block, (ad.add (pre.length * 6)).off + 2, none⟩ = some (.int .i64 u.f2.f0) ∧ w'.cell? ⟨(ad.add (pre.length * 6)).block, (ad.add (pre.length * 6)).off + 3, none⟩ = some (.int .i64 u.f2.f1) ∧ w'.cell? ⟨(ad.add (pre.length * 6)).block, (ad.add (pre.length * 6)).off + 4, none⟩ = some (.int .i64 u.f2.f2) ∧ w'.cell? ⟨(ad.add (pre.length * 6)).block, (ad.add (pre.length * 6)).off + 5, none⟩ = some (.int .i64 u.f3))) (fun _ => true) (by kernel_rfl) (by kernel_rfl) ?_
              rw [HVd.out]
              refine anyR_take (i := 0) (oi := { dst := some 76, op := .load 3 (.tmp 13), type := 3, pos := "law.go:143", after := #[], guard := none }) (v := ?_) rfl (by kernel_rfl) (fun _ _ _ h => h) (Or.inl ⟨by rfl, ?_⟩) HS.out ?_; rotate_left
              · (intro w9 hSw; (try dsimp only at hSw); go_simp; try (with_reducible rfl))
              try simp only [Act.put, List.setIfInBounds_toArray, List.set_cons_zero, List.set_cons_succ]
              refine anyR_take (i := 1) (oi := { dst := some 77, op := .load 48 (.tmp 11), type := 48, pos := "law.go:143", after := #[], guard := none }) (v := ?_) rfl (by kernel_rfl) (fun _ _ _ h => h) (Or.inl ⟨by rfl, ?_⟩) HS.out ?_; rotate_left
              · (intro w9 hSw; (try dsimp only at hSw); go_simp; try (with_reducible rfl))
              try simp only [Act.put, List.setIfInBounds_toArray, List.set_cons_zero, List.set_cons_succ]
              refine anyR_take (i := 2) (oi := { dst := some 78, op := .call { callee := .builtin .len, args := #[.tmp 77], argTypes := #[48] }, type := 3, pos := "law.go:143", after := #[{ on := 1, ground := .data }], guard := none }) (v := ?_) rfl (by kernel_rfl) (fun _ _ _ h => h) (Or.inl ⟨by rfl, ?_⟩) HS.out ?_; rotate_left
              · (intro w9 hSw; (try dsimp only at hSw); go_simp; try (with_reducible rfl))
              try simp only [Act.put, List.setIfInBounds_toArray, List.set_cons_zero, List.set_cons_succ]
              refine anyR_take (i := 3) (oi := { dst := some 79, op := .binOp .geq 3 (.tmp 76) (.tmp 78) 3, type := 4, pos := "law.go:143", after := #[{ on := 0, ground := .data }, { on := 2, ground := .data }], guard := none }) (v := ?_) rfl (by kernel_rfl) (fun _ _ _ h => h) (Or.inl ⟨by rfl, ?_⟩) HS.out ?_; rotate_left
              · (intro w9 hSw; (try dsimp only at hSw); go_simp; try (with_reducible rfl))
              try simp only [Act.put, List.setIfInBounds_toArray, List.set_cons_zero, List.set_cons_succ]
              refine anyR_take (i := 4) (oi := { dst := some 80, op := .move (.tmp 79), type := 4, pos := "law.go:143", after := #[{ on := 3, ground := .data }], guard := none }) (v := ?_) rfl (by kernel_rfl) (fun _ _ _ h => h) (Or.inl ⟨by rfl, ?_⟩) HS.out ?_; rotate_left
              · (intro w9 hSw; (try dsimp only at hSw); go_simp; try (with_reducible rfl))
              try simp only [Act.put, List.setIfInBounds_toArray, List.set_cons_zero, List.set_cons_succ]
              refine anyR_take (i := 5) (oi := { dst := some 81, op := .load 30 (.tmp 14), type := 30, pos := "law.go:143", after := #[{ on := 4, ground := .guard }], guard := some (4, false) }) (v := ?_) rfl (by kernel_rfl) (fun _ _ _ h => h) (Or.inl ⟨by rfl, ?_⟩) HS.out ?_; rotate_left
              · (intro w9 hSw; (try dsimp only at hSw); go_simp; try (with_reducible rfl))
              try simp only [Act.put, List.setIfInBounds_toArray, List.set_cons_zero, List.set_cons_succ]
              refine anyR_take (i := 6) (oi := { dst := some 82, op := .load 48 (.tmp 11), type := 48, pos := "law.go:143", after := #[{ on := 4, ground := .guard }], guard := some (4, false) }) (v := ?_) rfl (by kernel_rfl) (fun _ _ _ h => h) (Or.inl ⟨by rfl, ?_⟩) HS.out ?_; rotate_left
              · (intro w9 hSw; (try dsimp only at hSw); go_simp; try (with_reducible rfl))
              try simp only [Act.put, List.setIfInBounds_toArray, List.set_cons_zero, List.set_cons_succ]
              refine anyR_take (i := 7) (oi := { dst := some 83, op := .load 3 (.tmp 13), type := 3, pos := "law.go:143", after := #[{ on := 4, ground := .guard }], guard := some (4, false) }) (v := ?_) rfl (by kernel_rfl) (fun _ _ _ h => h) (Or.inl ⟨by rfl, ?_⟩) HS.out ?_; rotate_left
              · (intro w9 hSw; (try dsimp only at hSw); go_simp; try (with_reducible rfl))
              try simp only [Act.put, List.setIfInBounds_toArray, List.set_cons_zero, List.set_cons_succ]
              refine anyR_take (i := 8) (oi := { dst := some 84, op := .indexAddr 48 (.tmp 82) (.tmp 83), type := 0, pos := "law.go:143", after := #[{ on := 6, ground := .data }, { on := 7, ground := .data }, { on := 4, ground := .guard }], guard := some (4, false) }) (v := ?_) rfl (by kernel_rfl) (fun _ _ _ h => h) (Or.inl ⟨by rfl, ?_⟩) HS.out ?_; rotate_left
              · (intro w9 hSw; (try dsimp only at hSw); go_simp; try (with_reducible rfl))
              try simp only [Act.put, List.setIfInBounds_toArray, List.set_cons_zero, List.set_cons_succ]
              refine anyR_take (i := 9) (oi := { dst := some 85, op := .load 30 (.tmp 84), type := 30, pos := "law.go:143", after := #[{ on := 8, ground := .data }, { on := 4, ground := .guard }], guard := some (4, false) }) (v := ?_) rfl (by kernel_rfl) (fun _ _ _ h => h) (Or.inl ⟨by rfl, ?_⟩) HS.out ?_; rotate_left
              · (intro w9 hSw; (try dsimp only at hSw); go_simp; try (with_reducible rfl))
              try simp only [Act.put, List.setIfInBounds_toArray, List.set_cons_zero, List.set_cons_succ]
              by_cases htu : t = u
              · have HTU := Lib.hid htu
                obtain ⟨b, hbi, hbq⟩ : ∃ b : Bool, (b = false ↔ t = u) ∧ b = false := ⟨false, iff_of_true rfl htu, rfl⟩
                have HBI := Lib.hid hbi
                have HBQ := Lib.hid hbq
                clear htu hbi hbq
                refine anyR_take (i := 10) (oi := { dst := some 86, op := .binOp .neq 30 (.tmp 81) (.tmp 85) 30, type := 4, pos := "law.go:143", after := #[{ on := 5, ground := .data }, { on := 9, ground := .data }, { on := 4, ground := .guard }], guard := some (4, false) }) (v := .bool b) rfl (by kernel_rfl) (fun _ _ _ h => h) (Or.inl ⟨by rfl, ?_⟩) HS.out ?_
                · intro w9 hSw; (try dsimp only at hSw); go_simp; exact tk_neq HBI.out w9
                try simp only [Act.put, List.setIfInBounds_toArray, List.set_cons_zero, List.set_cons_succ]
                have hbq := HBQ.out
                subst hbq
                refine anyR_take (i := 11) (oi := { dst := some 87, op := .pick (.tmp 80) (.const (.bool true)) (.tmp 86), type := 4, pos := "law.go:143", after := #[{ on := 4, ground := .data }, { on := 10, ground := .data }], guard := none }) (v := ?_) rfl (by kernel_rfl) (fun _ _ _ h => h) (Or.inl ⟨by rfl, ?_⟩) HS.out ?_; rotate_left
                · (intro w9 hSw; (try dsimp only at hSw); go_simp; try (with_reducible rfl))
                try simp only [Act.put, List.setIfInBounds_toArray, List.set_cons_zero, List.set_cons_succ]
                refine anyR_done (by kernel_rfl) ?_ _
                simp only [Exit.then]
                have hnx : LI w16 w18 w18.heap.size w16.heap.size (toks x) (pre ++ [t]) (Vd.setCell ⟨w16.heap.size, 0, none⟩ (.int .i64 ((pre.length : Int) + 1))) := HIV.out.next (Nat.le_refl _) ((tok_pre HIV.out.pre HU.out).2 HTU.out)
                have hkk : KeepsFrom w18.heap.size V (Vd.setCell ⟨w16.heap.size, 0, none⟩ (.int .i64 ((pre.length : Int) + 1))) ∧ KpT w16 V (Vd.setCell ⟨w16.heap.size, 0, none⟩ (.int .i64 ((pre.length : Int) + 1))) := ⟨HREL.out.1.trans ((KeepsOthers.setCell _ _ _).from _), HREL.out.2.trans (KpT.setBox _ HIV.out.box (Nat.le_refl _))⟩
                obtain ⟨Ve, hVe⟩ : ∃ U, Vd.setCell ⟨w16.heap.size, 0, none⟩ (.int .i64 ((pre.length : Int) + 1)) = U := ⟨_, rfl⟩
                rw [hVe] at hnx hkk
                have ek : Ve.cell? ⟨w16.heap.size, 0, none⟩ = some (.int .i64 ((pre.length : Int) + 1)) := by rw [← hVe]; exact (HIV.out.box.set _).cell
                have ee : Ve.cell? ⟨W.heap.size + 1, 0, none⟩ = some (.int .i64 E) := by rw [← hVe]; exact (HTD.out.early.other (by have := HZ.out; omega) _).cell
                have HNX9 := Lib.hid hnx
                have HKK := Lib.hid hkk
                clear hnx hkk
                by_cases hek : (pre.length : Int) + 1 = E
                · have de : ((pre.length : Int) + 1 == E) = true := by simp [hek]
                  have de2 : decide ((pre.length : Int) + 1 = E) = true := decide_eq_true hek
                  have HEK := Lib.hid hek
                  clear hek
                  gi_wp2
                  exact ⟨HKK.out.1, .inl ⟨rfl, HNX9.out, by rw [List.length_append]; have := HEK.out; simp; omega, by have := HEK.out; omega⟩⟩
                · have de : ((pre.length : Int) + 1 == E) = false := by simp [hek]
                  have de2 : decide ((pre.length : Int) + 1 = E) = false := decide_eq_false hek
                  have HEK := Lib.hid hek
                  gi_wp2
                  exact ⟨HKK.out.1, HKK.out.2, HNX9.out, by rw [List.length_append]; have := HEK.out; have := HZ1.out; simp; omega⟩
              · have HTU := Lib.hid htu
                obtain ⟨b, hbi, hbq⟩ : ∃ b : Bool, (b = false ↔ t = u) ∧ b = true := ⟨true, iff_of_false Bool.noConfusion htu, rfl⟩
                have HBI := Lib.hid hbi
                have HBQ := Lib.hid hbq
                clear htu hbi hbq
                refine anyR_take (i := 10) (oi := { dst := some 86, op := .binOp .neq 30 (.tmp 81) (.tmp 85) 30, type := 4, pos := "law.go:143", after := #[{ on := 5, ground := .data }, { on := 9, ground := .data }, { on := 4, ground := .guard }], guard := some (4, false) }) (v := .bool b) rfl (by kernel_rfl) (fun _ _ _ h => h) (Or.inl ⟨by rfl, ?_⟩) HS.out ?_
                · intro w9 hSw; (try dsimp only at hSw); go_simp; exact tk_neq HBI.out w9
                try simp only [Act.put, List.setIfInBounds_toArray, List.set_cons_zero, List.set_cons_succ]
                have hbq := HBQ.out
                subst hbq
                refine anyR_take (i := 11) (oi := { dst := some 87, op := .pick (.tmp 80) (.const (.bool true)) (.tmp 86), type := 4, pos := "law.go:143", after := #[{ on := 4, ground := .data }, { on := 10, ground := .data }], guard := none }) (v := ?_) rfl (by kernel_rfl) (fun _ _ _ h => h) (Or.inl ⟨by rfl, ?_⟩) HS.out ?_; rotate_left
                · (intro w9 hSw; (try dsimp only at hSw); go_simp; try (with_reducible rfl))
                try simp only [Act.put, List.setIfInBounds_toArray, List.set_cons_zero, List.set_cons_succ]
                refine anyR_done (by kernel_rfl) ?_ _
                simp only [Exit.then]
                gi_wp2
                exact ⟨HREL.out.1.trans ((KeepsOthers.setCell _ _ _).from _), .inr ⟨rfl, fun h => HTU.out ((tok_pre HIV.out.pre HU.out).1 h)⟩⟩
            case doneN =>
              rintro D ys V hD rfl ⟨hI, hz⟩ hDef
              exact ⟨.inl rfl, D, _, V, rfl, rfl, hD, hDef, hI.kp, hI.box, fun h0 => by have := HE.out.2; omega⟩
            case stopN =>
              rintro D c' pre V hD hpre (⟨rfl, hI, h1, h2⟩ | ⟨rfl, hbad⟩) hDef
              · exact wpIn_exit ⟨.inr rfl, D, _, V, rfl, rfl, hD, hDef, hI.kp, hI.box, fun _ => h1⟩
              · exact absurd hpre hbad
        · have dn : decide (ea < 0) = false := decide_eq_false hneg
          obtain ⟨w16, hw16⟩ : ∃ V, w15.setCell ⟨W.heap.size + 1, 0, none⟩ (.int .i64 (ea % (((toks x).length : Int) + 1))) = V := ⟨_, rfl⟩
          have hg16 : w15.grownBy w16 (some (W.heap.size + 1)) := by rw [← hw16]; exact grownBy_setCell' w15 _ _
          have he16 : Boxed w16 (W.heap.size + 1) 3 (.int .i64 (ea % (((toks x).length : Int) + 1))) := by rw [← hw16]; exact HBE.out.set _
          have hE0 : 0 ≤ (ea % (((toks x).length : Int) + 1)) := Int.emod_nonneg _ hnz
          have hE1 : (ea % (((toks x).length : Int) + 1)) < (((toks x).length : Int) + 1) := Int.emod_lt_of_pos _ (by omega)
          obtain ⟨E, hE⟩ : ∃ E, (ea % (((toks x).length : Int) + 1)) = E := ⟨_, rfl⟩
          rw [hE] at hw16 he16 hE0 hE1
          have hz1 : W.heap.size + 1 + 1 < W1.heap.size := blk_lt HRB.out
          have hz3 := HB3.out.size
          have hz4 := HB4.out.size
          have hz10 := HB110.out.size
          have hz11 := HB1011.out.size
          have hz12 := HS12.out
          have hz9 := HB19.out.size
          have hbW : Below W.heap.size W w16 := (HB1.out.trans (HB115.out.mono HB1.out.size)).grown hg16 (Nat.le_trans HB1.out.size HB115.out.size) (fun k e => by cases e; omega)
          have hne : ∀ k, W.heap.size + 1 ≠ k → k < w15.heap.size → w16.heap[k]? = w15.heap[k]? := fun k hk hl => hg16.block k hl (fun e => by cases e; exact hk rfl)
          have hta : TAt w16 W.heap.size w3.heap.size w4.heap.size w10.heap.size w11.heap.size w12.heap.size g x A A10 c c10 E := by
            have hbn : w15.heap[w11.heap.size]? = _ := (HB15.out.block _ (blk_lt H12.out)).trans H12.out
            have hbx : w15.heap[w4.heap.size]? = _ := ((HB513.out.trans (HB15.out.mono HB513.out.size)).block _ (blk_lt HXB.out)).trans HXB.out
            have hbm : w15.heap[W.heap.size]? = _ := (HB115.out.block _ (blk_lt HN0.out)).trans HN0.out
            have hb1015 : Below w10.heap.size w10 w15 := HB1013.out.trans (HB15.out.mono HB1013.out.size)
            refine ⟨he16, (hne _ (by omega) HBR.out.lt).trans HBR.out, (hne _ (by omega) HBT.out.lt).trans HBT.out, (hne _ (by omega) HBS.out.lt).trans HBS.out, (hne _ (by omega) (blk_lt hbn)).trans hbn, (hne _ (by omega) (blk_lt hbx)).trans hbx, (hne _ (by omega) (blk_lt hbm)).trans hbm, ?_, ?_, HC0.out w16 hbW⟩
            · exact cop_move (fun b h1 h2 => hne b (by omega) h2) x (cop_below (cop_below HK5.out HB513.out) HB15.out)
            · have hr16 := Kd.R_move (w1 := w16) (Kd.R_bound HR10.out) (fun k hk => (hne k (by have := hk.2.1; omega) (Nat.lt_of_lt_of_le hk.2.2.1 hb1015.size)).trans (hb1015.block k hk.2.2.1))
              exact (Kd.R_reads' hr16).2.2
          have HTA := Lib.hid hta
          have HBW := Lib.hid hbW
          have HE := Lib.hid (And.intro hE0 hE1)
          have HKC : Hid (Kd.C kNd w16 (some ⟨g, 0, none⟩) x.f2.length x.f2) := Lib.hid (by
            obtain ⟨g', he, hr⟩ := cop_C hta.cop
            obtain rfl : g = g' := by simp [ndCells] at he; exact he
            exact hr)
          have HZ := Lib.hid (show W.heap.size + 1 + 1 < w16.heap.size by have := hta.res.lt; omega)
          obtain ⟨w17, hw17⟩ : ∃ V, w16.alloc (.cells #[.int .i64 0] 3) = V := ⟨_, rfl⟩
          have hb17 : Below w16.heap.size w16 w17 := by rw [← hw17]; exact (Below.refl _ _).alloc (Nat.le_refl _) _
          have hk17 : Boxed w17 w16.heap.size 3 (.int .i64 0) := by rw [← hw17]; exact Boxed.new _ _ _
          have ck17 := hk17.cell
          have fk17 := hk17.frozen
          obtain ⟨w18, hw18⟩ : ∃ V, w17.setCell ⟨w16.heap.size, 0, none⟩ (.int .i64 0) = V := ⟨_, rfl⟩
          have hb18 : Below w16.heap.size w16 w18 := by rw [← hw18]; exact hb17.setCell (p := ⟨w16.heap.size, 0, none⟩) (Nat.le_refl _) _
          have hk18 : Boxed w18 w16.heap.size 3 (.int .i64 0) := by rw [← hw18]; exact hk17.set _
          have HK18 := Lib.hid hk18
          have HB18 := Lib.hid hb18
          have cs := (hta.below hb18).seq.cell
          clear hta hbW hE0 hE1 hb17 hk17 hb18 hk18 hne hz1 hz3 hz4 hz9 hz10 hz11 hz12 hg16 he16
          gi_wp2
          clear ck17 fk17 hw18 hw16 hw17 ce fe ct he0 he1 dn cs HBE HBR HBT HBS HEA HB115 HB15 HS15 HS14 HB14 HSA HDP HDR HWd HBD HS HC13 HT13 H13 H12 HB513 HB113 HB1013 HS12 HL10 HC10 HR10 HB110 HB510 H11 HB1011 HB511 HTK HB19 HB59 HB58 HEI HNP HNL HSM HER HEV HCP
          refine wpIn_post (fun a' V' => ∃ (D kk : Nat) (V : World), a' = { tmps := #[.agg #[.int .u8 x.f0, .int .u8 x.f1.f0, .string x.f1.f1, .int .i64 x.f1.f2.f0, .int .i64 x.f1.f2.f1, .int .i64 x.f1.f2.f2, .int .i64 x.f1.f3, .slice A x.f2.length c], .int .i64 ea, .pointer (some ⟨W.heap.size, 0, none⟩), .pointer (some ⟨W.heap.size + 1, 0, none⟩), .pointer (some ⟨W.heap.size + 1 + 1, 0, none⟩), .bool true, .pointer (some ⟨w4.heap.size, 0, none⟩), .slice (some ⟨g6, 0, none⟩) (tells x).length c6, .slice A7 (tells x).length c7, .bool true, .int .i64 ↑i, .pointer (some ⟨w10.heap.size, 0, none⟩), .pointer (some ⟨w12.heap.size, 0, none⟩), .pointer (some ⟨w16.heap.size, 0, none⟩), undef, undef, undef, undef, undef, .bool true, .bool true, .bool false, .bool false, .agg #[.int .u8 x.f0, .int .u8 x.f1.f0, .string x.f1.f1, .int .i64 x.f1.f2.f0, .int .i64 x.f1.f2.f1, .int .i64 x.f1.f2.f2, .int .i64 x.f1.f3, .slice A x.f2.length c], .int .i64 r, .bool false, .bool false, undef, .agg #[.int .u8 x.f0, .int .u8 x.f1.f0, .string x.f1.f1, .int .i64 x.f1.f2.f0, .int .i64 x.f1.f2.f1, .int .i64 x.f1.f2.f2, .int .i64 x.f1.f3, .slice A x.f2.length c], .agg #[.int .u8 x.f0, .int .u8 x.f1.f0, .string x.f1.f1, .int .i64 x.f1.f2.f0, .int .i64 x.f1.f2.f1, .int .i64 x.f1.f2.f2, .int .i64 x.f1.f3, .slice (some ⟨g, 0, none⟩) x.f2.length (x.f2.length + 1)], .agg #[.int .u8 x.f0, .int .u8 x.f1.f0, .string x.f1.f1, .int .i64 x.f1.f2.f0, .int .i64 x.f1.f2.f1, .int .i64 x.f1.f2.f2, .int .i64 x.f1.f3, .slice (some ⟨g, 0, none⟩) x.f2.length (x.f2.length + 1)], .slice (some ⟨g6, 0, none⟩) (tells x).length c6, .agg #[.int .u8 x.f0, .int .u8 x.f1.f0, .string x.f1.f1, .int .i64 x.f1.f2.f0, .int .i64 x.f1.f2.f1, .int .i64 x.f1.f2.f2, .int .i64 x.f1.f3, .slice A x.f2.length c], .slice A7 (tells x).length c7, .slice (some ⟨g6, 0, none⟩) (tells x).length c6, .slice A7 (tells x).length c7, .bool true, .int .i64 ↑i, .slice (some ⟨g6, 0, none⟩) (tells x).length c6, .int .i64 ↑(tells x).length, .bool false, u41, u42, u43, u44, u45, u46, .agg #[.int .u8 x.f0, .int .u8 x.f1.f0, .string x.f1.f1, .int .i64 x.f1.f2.f0, .int .i64 x.f1.f2.f1, .int .i64 x.f1.f2.f2, .int .i64 x.f1.f3, .slice A x.f2.length c], .slice A10 (toks x).length c10, .agg #[.int .u8 x.f0, .int .u8 x.f1.f0, .string x.f1.f1, .int .i64 x.f1.f2.f0, .int .i64 x.f1.f2.f1, .int .i64 x.f1.f2.f2, .int .i64 x.f1.f3, .slice (some ⟨g, 0, none⟩) x.f2.length (x.f2.length + 1)], .func (.func 32) #[] #[.pointer (some ⟨w11.heap.size, 0, none⟩)], .func (.func 32) #[] #[.pointer (some ⟨w11.heap.size, 0, none⟩)], .bool false, .bool false, .bool true, .bool false, .bool false, .bool false, .agg #[.int .u8 x.f0, .int .u8 x.f1.f0, .string x.f1.f1, .int .i64 x.f1.f2.f0, .int .i64 x.f1.f2.f1, .int .i64 x.f1.f2.f2, .int .i64 x.f1.f3, .slice (some ⟨g, 0, none⟩) x.f2.length (x.f2.length + 1)], .int .i64 ↑(dep x), .agg #[.int .u8 x.f0, .int .u8 x.f1.f0, .string x.f1.f1, .int .i64 x.f1.f2.f0, .int .i64 x.f1.f2.f1, .int .i64 x.f1.f2.f2, .int .i64 x.f1.f3, .slice A x.f2.length c], .int .i64 ↑(dep x), .bool false, .bool false, .int .i64 ea, .bool false, undef, undef, undef, .int .i64 ea, .slice A10 (toks x).length c10, .int .i64 ↑(toks x).length, .int .i64 (↑(toks x).length + 1), .int .i64 E, .func (.func 32) #[] #[.pointer (some ⟨w11.heap.size, 0, none⟩)], undef, undef, undef, undef, undef, undef, undef, undef, undef, undef, undef, undef, undef, undef, undef, undef, undef, undef, undef, undef, undef, undef, undef, undef, undef, undef, undef, undef, undef, undef, undef, undef, undef, undef, undef, undef, undef, undef, undef, undef, undef, undef, undef, undef, undef, undef, undef, undef, undef, undef, undef, undef, undef, undef, undef, undef, undef, undef, undef, undef, undef, undef, undef, undef, undef, undef, undef, undef, undef, undef, undef, undef, undef], defers := [{ target := .collected D, args := #[] }] } ∧ V' = V ∧ w18.heap.size ≤ D ∧ V.heap[D]? = some (.deferred (some [])) ∧ KpT w16 w18 V ∧ Boxed V w16.heap.size 3 (.int .i64 (kk : Nat)) ∧ (0 < E → (kk : Int) = E)) ?rest (fun a' V' h => by simp only [Exit.inBlock] at h ⊢; exact h) ?loop
          case rest =>
            rintro _ V ⟨D, kk, V0, rfl, hV, hD, hDef, hkp, hbk, hke⟩
            subst hV
            simp only [Exit.inBlock, Exit.then]
            have hta := HTA.out.below (HB18.out.trans hkp.below)
            have ce := hta.early.cell
            have ckk := hbk.cell
            have fkk := hbk.frozen
            have HKP := Lib.hid hkp
            have HTV := Lib.hid hta
            have HBK := Lib.hid hbk
            have HDD := Lib.hid (And.intro hD hDef)
            clear hkp hta hbk hD hDef
            rename_i hKK
            refine hKK _ _ ?_
            clear hKK
            refine wpIn_seq ?_
            refine wpIn_postN (fun a' V' => ∃ u94 u95 u96 u97 u98, a' = { tmps := #[.agg #[.int .u8 x.f0, .int .u8 x.f1.f0, .string x.f1.f1, .int .i64 x.f1.f2.f0, .int .i64 x.f1.f2.f1, .int .i64 x.f1.f2.f2, .int .i64 x.f1.f3, .slice A x.f2.length c], .int .i64 ea, .pointer (some ⟨W.heap.size, 0, none⟩), .pointer (some ⟨W.heap.size + 1, 0, none⟩), .pointer (some ⟨W.heap.size + 1 + 1, 0, none⟩), .bool true, .pointer (some ⟨w4.heap.size, 0, none⟩), .slice (some ⟨g6, 0, none⟩) (tells x).length c6, .slice A7 (tells x).length c7, .bool true, .int .i64 ↑i, .pointer (some ⟨w10.heap.size, 0, none⟩), .pointer (some ⟨w12.heap.size, 0, none⟩), .pointer (some ⟨w16.heap.size, 0, none⟩), undef, undef, undef, undef, undef, .bool true, .bool true, .bool false, .bool false, .agg #[.int .u8 x.f0, .int .u8 x.f1.f0, .string x.f1.f1, .int .i64 x.f1.f2.f0, .int .i64 x.f1.f2.f1, .int .i64 x.f1.f2.f2, .int .i64 x.f1.f3, .slice A x.f2.length c], .int .i64 r, .bool false, .bool false, undef, .agg #[.int .u8 x.f0, .int .u8 x.f1.f0, .string x.f1.f1, .int .i64 x.f1.f2.f0, .int .i64 x.f1.f2.f1, .int .i64 x.f1.f2.f2, .int .i64 x.f1.f3, .slice A x.f2.length c], .agg #[.int .u8 x.f0, .int .u8 x.f1.f0, .string x.f1.f1, .int .i64 x.f1.f2.f0, .int .i64 x.f1.f2.f1, .int .i64 x.f1.f2.f2, .int .i64 x.f1.f3, .slice (some ⟨g, 0, none⟩) x.f2.length (x.f2.length + 1)], .agg #[.int .u8 x.f0, .int .u8 x.f1.f0, .string x.f1.f1, .int .i64 x.f1.f2.f0, .int .i64 x.f1.f2.f1, .int .i64 x.f1.f2.f2, .int .i64 x.f1.f3, .slice (some ⟨g, 0, none⟩) x.f2.length (x.f2.length + 1)], .slice (some ⟨g6, 0, none⟩) (tells x).length c6, .agg #[.int .u8 x.f0, .int .u8 x.f1.f0, .string x.f1.f1, .int .i64 x.f1.f2.f0, .int .i64 x.f1.f2.f1, .int .i64 x.f1.f2.f2, .int .i64 x.f1.f3, .slice A x.f2.length c], .slice A7 (tells x).length c7, .slice (some ⟨g6, 0, none⟩) (tells x).length c6, .slice A7 (tells x).length c7, .bool true, .int .i64 ↑i, .slice (some ⟨g6, 0, none⟩) (tells x).length c6, .int .i64 ↑(tells x).length, .bool false, u41, u42, u43, u44, u45, u46, .agg #[.int .u8 x.f0, .int .u8 x.f1.f0, .string x.f1.f1, .int .i64 x.f1.f2.f0, .int .i64 x.f1.f2.f1, .int .i64 x.f1.f2.f2, .int .i64 x.f1.f3, .slice A x.f2.length c], .slice A10 (toks x).length c10, .agg #[.int .u8 x.f0, .int .u8 x.f1.f0, .string x.f1.f1, .int .i64 x.f1.f2.f0, .int .i64 x.f1.f2.f1, .int .i64 x.f1.f2.f2, .int .i64 x.f1.f3, .slice (some ⟨g, 0, none⟩) x.f2.length (x.f2.length + 1)], .func (.func 32) #[] #[.pointer (some ⟨w11.heap.size, 0, none⟩)], .func (.func 32) #[] #[.pointer (some ⟨w11.heap.size, 0, none⟩)], .bool false, .bool false, .bool true, .bool false, .bool false, .bool false, .agg #[.int .u8 x.f0, .int .u8 x.f1.f0, .string x.f1.f1, .int .i64 x.f1.f2.f0, .int .i64 x.f1.f2.f1, .int .i64 x.f1.f2.f2, .int .i64 x.f1.f3, .slice (some ⟨g, 0, none⟩) x.f2.length (x.f2.length + 1)], .int .i64 ↑(dep x), .agg #[.int .u8 x.f0, .int .u8 x.f1.f0, .string x.f1.f1, .int .i64 x.f1.f2.f0, .int .i64 x.f1.f2.f1, .int .i64 x.f1.f2.f2, .int .i64 x.f1.f3, .slice A x.f2.length c], .int .i64 ↑(dep x), .bool false, .bool false, .int .i64 ea, .bool false, undef, undef, undef, .int .i64 ea, .slice A10 (toks x).length c10, .int .i64 ↑(toks x).length, .int .i64 (↑(toks x).length + 1), .int .i64 E, .func (.func 32) #[] #[.pointer (some ⟨w11.heap.size, 0, none⟩)], undef, undef, undef, undef, undef, undef, undef, undef, undef, undef, undef, undef, undef, undef, undef, undef, undef, undef, .int .i64 E, u94, u95, u96, u97, u98, .bool false, undef, undef, undef, undef, undef, undef, undef, undef, undef, undef, undef, undef, undef, undef, undef, undef, undef, undef, undef, undef, undef, undef, undef, undef, undef, undef, undef, undef, undef, undef, undef, undef, undef, undef, undef, undef, undef, undef, undef, undef, undef, undef, undef, undef, undef, undef, undef, undef], defers := [{ target := .collected D, args := #[] }] } ∧ V' = V) ?rest2 ?reg26
            case reg26 =>
              by_cases h0 : 0 < E
              · have d0 : decide (0 < E) = true := decide_eq_true h0
                have hk := hke h0
                have d1 : (decide ((kk : Int) = E)) = true := decide_eq_true hk
                have d2 : ((kk : Int) == E) = true := by simp [hk]
                clear h0 hke hk
                gi_wp2
              · have d0 : decide (0 < E) = false := decide_eq_false h0
                clear h0 hke
                gi_wp2
            case rest2 =>
              rintro _ V' ⟨u94, u95, u96, u97, u98, rfl, hV'⟩
              subst hV'
              simp only [Exit.then]
              have hk2 : Boxed (V'.setCell ⟨w16.heap.size, 0, none⟩ (.int .i64 0)) w16.heap.size 3 (.int .i64 0) := HBK.out.set _
              obtain ⟨V2, hV2⟩ : ∃ U, V'.setCell ⟨w16.heap.size, 0, none⟩ (.int .i64 0) = U := ⟨_, rfl⟩
              rw [hV2] at hk2
              have hb2 : Below w16.heap.size w16 V2 := by rw [← hV2]; exact (HB18.out.trans HKP.out.below).setCell (p := ⟨w16.heap.size, 0, none⟩) (Nat.le_refl _) _
              have hd2 : V2.heap[D]? = some (.deferred (some [])) := by
                rw [← hV2]
                refine ((grownBy_setCell' V' _ _).block D (blk_lt HDD.out.2) (fun e => ?_)).trans HDD.out.2
                cases e
                have h := HDD.out.2
                rw [show V'.heap[w16.heap.size]? = _ from HBK.out] at h
                cases h
              have cs2 := (HTA.out.below hb2).seq.cell
              have HK2 := Lib.hid hk2
              have HB2 := Lib.hid hb2
              have HD2 := Lib.hid hd2
              have HDW : Hid (w16.heap.size < D) := Lib.hid (by have := HDD.out.1; have := HK18.out.lt; omega)
              clear hk2 hb2 hd2 hke
              gi_wp2
              clear ckk fkk cs2 ce hV2 HKP HTV HBK HDD
              refine wpIn_rangeFunc_ownH rfl (by decide) (gf := 32) (lb := #[.pointer (some ⟨w11.heap.size, 0, none⟩)]) rfl trivial (enters_of Try.func32 (by kernel_rfl) rfl)
                (toks_stops 7 (by decide) w16 x (some ⟨g, 0, none⟩) (x.f2.length + 1) (Nat.le_succ _) (by have := HNX.out; omega) HKC.out w16 (Below.refl _ _) w11.heap.size HTA.out.bn)
                (fun h h' => KpT.trans h h') (fun V l o o' hl h hc _ => KpT.putObj o' (Nat.le_trans HB2.out.size hl) h hc) HB2.out (fun _ => rfl)
                (fun pre V => LI w16 V2 w16.heap.size w16.heap.size (toks x) pre V)
                (fun c pre V => c = .ret ∧ ¬ pre <+: toks x)
                (LI.own HB2.out.size (Nat.le_refl _)) (fun c => ownFrom_pure _ _)
                ⟨KpT.refl _ _, KeepsFrom.refl _ _, HK2.out, List.nil_prefix⟩
                (fun t a' V => ∃ Bx, V2.heap.size ≤ Bx ∧ V.heap[Bx]? = some (.cells #[.int .u8 t.f0, .string t.f1, .int .i64 t.f2.f0, .int .i64 t.f2.f1, .int .i64 t.f2.f2, .int .i64 t.f3] 30 (0, 0)) ∧ a' = { tmps := #[.agg #[.int .u8 x.f0, .int .u8 x.f1.f0, .string x.f1.f1, .int .i64 x.f1.f2.f0, .int .i64 x.f1.f2.f1, .int .i64 x.f1.f2.f2, .int .i64 x.f1.f3, .slice A x.f2.length c], .int .i64 ea, .pointer (some ⟨W.heap.size, 0, none⟩), .pointer (some ⟨W.heap.size + 1, 0, none⟩), .pointer (some ⟨W.heap.size + 1 + 1, 0, none⟩), .bool true, .pointer (some ⟨w4.heap.size, 0, none⟩), .slice (some ⟨g6, 0, none⟩) (tells x).length c6, .slice A7 (tells x).length c7, .bool true, .int .i64 ↑i, .pointer (some ⟨w10.heap.size, 0, none⟩), .pointer (some ⟨w12.heap.size, 0, none⟩), .pointer (some ⟨w16.heap.size, 0, none⟩), undef, .pointer (some ⟨Bx, 0, none⟩), undef, undef, undef, .bool true, .bool true, .bool false, .bool false, .agg #[.int .u8 x.f0, .int .u8 x.f1.f0, .string x.f1.f1, .int .i64 x.f1.f2.f0, .int .i64 x.f1.f2.f1, .int .i64 x.f1.f2.f2, .int .i64 x.f1.f3, .slice A x.f2.length c], .int .i64 r, .bool false, .bool false, undef, .agg #[.int .u8 x.f0, .int .u8 x.f1.f0, .string x.f1.f1, .int .i64 x.f1.f2.f0, .int .i64 x.f1.f2.f1, .int .i64 x.f1.f2.f2, .int .i64 x.f1.f3, .slice A x.f2.length c], .agg #[.int .u8 x.f0, .int .u8 x.f1.f0, .string x.f1.f1, .int .i64 x.f1.f2.f0, .int .i64 x.f1.f2.f1, .int .i64 x.f1.f2.f2, .int .i64 x.f1.f3, .slice (some ⟨g, 0, none⟩) x.f2.length (x.f2.length + 1)], .agg #[.int .u8 x.f0, .int .u8 x.f1.f0, .string x.f1.f1, .int .i64 x.f1.f2.f0, .int .i64 x.f1.f2.f1, .int .i64 x.f1.f2.f2, .int .i64 x.f1.f3, .slice (some ⟨g, 0, none⟩) x.f2.length (x.f2.length + 1)], .slice (some ⟨g6, 0, none⟩) (tells x).length c6, .agg #[.int .u8 x.f0, .int .u8 x.f1.f0, .string x.f1.f1, .int .i64 x.f1.f2.f0, .int .i64 x.f1.f2.f1, .int .i64 x.f1.f2.f2, .int .i64 x.f1.f3, .slice A x.f2.length c], .slice A7 (tells x).length c7, .slice (some ⟨g6, 0, none⟩) (tells x).length c6, .slice A7 (tells x).length c7, .bool true, .int .i64 ↑i, .slice (some ⟨g6, 0, none⟩) (tells x).length c6, .int .i64 ↑(tells x).length, .bool false, u41, u42, u43, u44, u45, u46, .agg #[.int .u8 x.f0, .int .u8 x.f1.f0, .string x.f1.f1, .int .i64 x.f1.f2.f0, .int .i64 x.f1.f2.f1, .int .i64 x.f1.f2.f2, .int .i64 x.f1.f3, .slice A x.f2.length c], .slice A10 (toks x).length c10, .agg #[.int .u8 x.f0, .int .u8 x.f1.f0, .string x.f1.f1, .int .i64 x.f1.f2.f0, .int .i64 x.f1.f2.f1, .int .i64 x.f1.f2.f2, .int .i64 x.f1.f3, .slice (some ⟨g, 0, none⟩) x.f2.length (x.f2.length + 1)], .func (.func 32) #[] #[.pointer (some ⟨w11.heap.size, 0, none⟩)], .func (.func 32) #[] #[.pointer (some ⟨w11.heap.size, 0, none⟩)], .bool false, .bool false, .bool true, .bool false, .bool false, .bool false, .agg #[.int .u8 x.f0, .int .u8 x.f1.f0, .string x.f1.f1, .int .i64 x.f1.f2.f0, .int .i64 x.f1.f2.f1, .int .i64 x.f1.f2.f2, .int .i64 x.f1.f3, .slice (some ⟨g, 0, none⟩) x.f2.length (x.f2.length + 1)], .int .i64 ↑(dep x), .agg #[.int .u8 x.f0, .int .u8 x.f1.f0, .string x.f1.f1, .int .i64 x.f1.f2.f0, .int .i64 x.f1.f2.f1, .int .i64 x.f1.f2.f2, .int .i64 x.f1.f3, .slice A x.f2.length c], .int .i64 ↑(dep x), .bool false, .bool false, .int .i64 ea, .bool false, undef, undef, undef, .int .i64 ea, .slice A10 (toks x).length c10, .int .i64 ↑(toks x).length, .int .i64 (↑(toks x).length + 1), .int .i64 E, .func (.func 32) #[] #[.pointer (some ⟨w11.heap.size, 0, none⟩)], undef, undef, undef, undef, undef, undef, undef, undef, undef, undef, undef, undef, undef, undef, undef, undef, undef, undef, .int .i64 E, u94, u95, u96, u97, u98, .bool false, .func (.func 32) #[] #[.pointer (some ⟨w11.heap.size, 0, none⟩)], .agg #[.int .u8 t.f0, .string t.f1, .int .i64 t.f2.f0, .int .i64 t.f2.f1, .int .i64 t.f2.f2, .int .i64 t.f3], undef, undef, undef, undef, undef, undef, undef, undef, undef, undef, undef, undef, undef, undef, undef, undef, undef, undef, undef, undef, undef, undef, undef, undef, undef, undef, undef, undef, undef, undef, undef, undef, undef, undef, undef, undef, undef, undef, undef, undef, undef, undef, undef, undef, undef, undef], defers := [] }) ?hAx2 ?assign2 ?body2 ?done2 ?stop2
              case hAx2 =>
                rintro t a' _ X Y row ⟨Bx, h1, h2, h3⟩ hg hr
                refine ⟨Bx, h1, (hg.block Bx (Array.getElem?_eq_some_iff.1 h2).1 fun e => ?_).trans h2, h3⟩
                obtain ⟨_, o, ho, hc⟩ := hr Bx e.symm
                rw [h2] at ho; cases ho; cases hc
              case assign2 =>
                rintro l pre t V K hI hK
                unfold tkV
                gi_wp2
                exact hK _ _ ((KeepsOthers.alloc _ _).from _) (KpT.alloc (Nat.le_trans HB2.out.size hI.keeps.size) _) (hI.alloc HB2.out.size _) ⟨V.heap.size, hI.keeps.size, World.alloc_heap_new _ _, rfl⟩
              case body2 =>
                rintro l pre t a' V hl hloop hI ⟨Bx, hBx, hcx, rfl⟩ hlt
                have HLP := Lib.hid hloop
                have HLL := Lib.hid hl
                obtain ⟨u, hu⟩ : ∃ u, (toks x)[pre.length]? = some u := ⟨_, List.getElem?_eq_getElem hlt⟩
                obtain ⟨Vd, hVd⟩ : ∃ U, V.drew = U := ⟨_, rfl⟩
                have hId : LI w16 V2 w16.heap.size w16.heap.size (toks x) pre Vd := by rw [← hVd]; exact hI.drew
                have hrel : KeepsFrom V2.heap.size V Vd ∧ KpT w16 V Vd := by rw [← hVd]; exact ⟨(KeepsOthers.drew V).from _, KpT.drew _ _⟩
                have hcd : Vd.heap[Bx]? = some (.cells #[.int .u8 t.f0, .string t.f1, .int .i64 t.f2.f0, .int .i64 t.f2.f1, .int .i64 t.f2.f2, .int .i64 t.f3] 30 (0, 0)) := by rw [← hVd]; exact hcx
                have hta := HTA.out.below (HB2.out.trans (hId.kp.below))
                obtain ⟨ad, rfl, hrow⟩ := tok_at hta.row pre.length u hlt hu
                have HS : Hid (Vd.cell? ⟨w16.heap.size, 0, none⟩ = some (.int .i64 (pre.length : Nat)) ∧ Vd.cell? ⟨w10.heap.size, 0, none⟩ = some (.slice (some ad) (toks x).length c10) ∧ (Vd.cell? ⟨Bx, 0, none⟩ = some (.int .u8 t.f0) ∧ Vd.cell? ⟨Bx, 1, none⟩ = some (.string t.f1) ∧ Vd.cell? ⟨Bx, 2, none⟩ = some (.int .i64 t.f2.f0) ∧ Vd.cell? ⟨Bx, 3, none⟩ = some (.int .i64 t.f2.f1) ∧ Vd.cell? ⟨Bx, 4, none⟩ = some (.int .i64 t.f2.f2) ∧ Vd.cell? ⟨Bx, 5, none⟩ = some (.int .i64 t.f3)) ∧ (Vd.cell? (ad.add (pre.length * 6)) = some (.int .u8 u.f0) ∧ Vd.cell? ⟨(ad.add (pre.length * 6)).block, (ad.add (pre.length * 6)).off + 1, none⟩ = some (.string u.f1) ∧ Vd.cell? ⟨(ad.add (pre.length * 6)).block, (ad.add (pre.length * 6)).off + 2, none⟩ = some (.int .i64 u.f2.f0) ∧ Vd.cell? ⟨(ad.add (pre.length * 6)).block, (ad.add (pre.length * 6)).off + 3, none⟩ = some (.int .i64 u.f2.f1) ∧ Vd.cell? ⟨(ad.add (pre.length * 6)).block, (ad.add (pre.length * 6)).off + 4, none⟩ = some (.int .i64 u.f2.f2) ∧ Vd.cell? ⟨(ad.add (pre.length * 6)).block, (ad.add (pre.length * 6)).off + 5, none⟩ = some (.int .i64 u.f3))) := Lib.hid ⟨hId.box.cell, hta.tks.cell, ⟨cell_of_row _ _ _ _ _ _ hcd, cell_of_row _ _ _ _ _ _ hcd, cell_of_row _ _ _ _ _ _ hcd, cell_of_row _ _ _ _ _ _ hcd, cell_of_row _ _ _ _ _ _ hcd, cell_of_row _ _ _ _ _ _ hcd⟩, hrow⟩
                have HU := Lib.hid hu
                have HIV := Lib.hid hId
                have HREL := Lib.hid hrel
                have HTD := Lib.hid hta
                have HVd := Lib.hid hVd
                have HLT := Lib.hid hlt
                have d1 : decide (((toks x).length : Int) ≤ (pre.length : Int)) = false := decide_eq_false (by omega)
                have d2 : decide ((toks x).length ≤ pre.length) = false := decide_eq_false (by omega)
                have g1 : (0 : Int) ≤ (pre.length : Int) := by omega
                have g2 : (pre.length : Int) < ((toks x).length : Int) := by omega
                have cr := hta.res.cell
                have fr := hta.res.frozen
                have ck := hId.box.cell
                have fk := hId.box.frozen
                clear hI hcx hu hVd hId hrel hcd hta hrow hloop hl
                refine wpIn_block ?_
                repeat refine wpIn_seq ?_
                refine wp_region_RIn (fun w' => w'.cell? ⟨w16.heap.size, 0, none⟩ = some (.int .i64 (pre.length : Nat)) ∧ w'.cell? ⟨w10.heap.size, 0, none⟩ = some (.slice (some ad) (toks x).length c10) ∧ (w'.cell? ⟨Bx, 0, none⟩ = some (.int .u8 t.f0) ∧ w'.cell? ⟨Bx, 1, none⟩ = some (.string t.f1) ∧ w'.cell? ⟨Bx, 2, none⟩ = some (.int .i64 t.f2.f0) ∧ w'.cell? ⟨Bx, 3, none⟩ = some (.int .i64 t.f2.f1) ∧ w'.cell? ⟨Bx, 4, none⟩ = some (.int .i64 t.f2.f2) ∧ w'.cell? ⟨Bx, 5, none⟩ = some (.int .i64 t.f3)) ∧ (w'.cell? (ad.add (pre.length * 6)) = some (.int .u8 u.f0) ∧ w'.cell? ⟨(ad.add (pre.length * 6)).block, (ad.add (pre.length * 6)).off + 1, none⟩ = some (.string u.f1) ∧ w'.cell? ⟨(ad.add (pre.length * 6)).block, (ad.add (pre.length * 6)).off + 2, none⟩ = some (.int .i64 u.f2.f0) ∧ w'.cell? ⟨(ad.add (pre.length * 6)).block, (ad.add (pre.length * 6)).off + 3, none⟩ = some (.int .i64 u.f2.f1) ∧ w'.cell? ⟨(ad.add (pre.length * 6)).block, (ad.add (pre.length * 6)).off + 4, none⟩ = some (.int .i64 u.f2.f2) ∧ w'.cell? ⟨(ad.add (pre.length * 6)).block, (ad.add (pre.length * 6)).off + 5, none⟩ = some (.int .i64 u.f3))) (fun _ => true) (by kernel_rfl) (by kernel_rfl) ?_
                rw [HVd.out]
                refine anyR_take (i := 0) (oi := { dst := some 102, op := .load 3 (.tmp 13), type := 3, pos := "law.go:156", after := #[], guard := none }) (v := ?_) rfl (by kernel_rfl) (fun _ _ _ h => h) (Or.inl ⟨by rfl, ?_⟩) HS.out ?_; rotate_left
                · (intro w9 hSw; (try dsimp only at hSw); go_simp; try (with_reducible rfl))
                try simp only [Act.put, List.setIfInBounds_toArray, List.set_cons_zero, List.set_cons_succ]
                refine anyR_take (i := 1) (oi := { dst := some 103, op := .load 48 (.tmp 11), type := 48, pos := "law.go:156", after := #[], guard := none }) (v := ?_) rfl (by kernel_rfl) (fun _ _ _ h => h) (Or.inl ⟨by rfl, ?_⟩) HS.out ?_; rotate_left
                · (intro w9 hSw; (try dsimp only at hSw); go_simp; try (with_reducible rfl))
                try simp only [Act.put, List.setIfInBounds_toArray, List.set_cons_zero, List.set_cons_succ]
                refine anyR_take (i := 2) (oi := { dst := some 104, op := .call { callee := .builtin .len, args := #[.tmp 103], argTypes := #[48] }, type := 3, pos := "law.go:156", after := #[{ on := 1, ground := .data }], guard := none }) (v := ?_) rfl (by kernel_rfl) (fun _ _ _ h => h) (Or.inl ⟨by rfl, ?_⟩) HS.out ?_; rotate_left
                · (intro w9 hSw; (try dsimp only at hSw); go_simp; try (with_reducible rfl))
                try simp only [Act.put, List.setIfInBounds_toArray, List.set_cons_zero, List.set_cons_succ]
                refine anyR_take (i := 3) (oi := { dst := some 105, op := .binOp .geq 3 (.tmp 102) (.tmp 104) 3, type := 4, pos := "law.go:156", after := #[{ on := 0, ground := .data }, { on := 2, ground := .data }], guard := none }) (v := ?_) rfl (by kernel_rfl) (fun _ _ _ h => h) (Or.inl ⟨by rfl, ?_⟩) HS.out ?_; rotate_left
                · (intro w9 hSw; (try dsimp only at hSw); go_simp; try (with_reducible rfl))
                try simp only [Act.put, List.setIfInBounds_toArray, List.set_cons_zero, List.set_cons_succ]
                refine anyR_take (i := 4) (oi := { dst := some 106, op := .move (.tmp 105), type := 4, pos := "law.go:156", after := #[{ on := 3, ground := .data }], guard := none }) (v := ?_) rfl (by kernel_rfl) (fun _ _ _ h => h) (Or.inl ⟨by rfl, ?_⟩) HS.out ?_; rotate_left
                · (intro w9 hSw; (try dsimp only at hSw); go_simp; try (with_reducible rfl))
                try simp only [Act.put, List.setIfInBounds_toArray, List.set_cons_zero, List.set_cons_succ]
                refine anyR_take (i := 5) (oi := { dst := some 107, op := .load 30 (.tmp 15), type := 30, pos := "law.go:156", after := #[{ on := 4, ground := .guard }], guard := some (4, false) }) (v := ?_) rfl (by kernel_rfl) (fun _ _ _ h => h) (Or.inl ⟨by rfl, ?_⟩) HS.out ?_; rotate_left
                · (intro w9 hSw; (try dsimp only at hSw); go_simp; try (with_reducible rfl))
                try simp only [Act.put, List.setIfInBounds_toArray, List.set_cons_zero, List.set_cons_succ]
                refine anyR_take (i := 6) (oi := { dst := some 108, op := .load 48 (.tmp 11), type := 48, pos := "law.go:156", after := #[{ on := 4, ground := .guard }], guard := some (4, false) }) (v := ?_) rfl (by kernel_rfl) (fun _ _ _ h => h) (Or.inl ⟨by rfl, ?_⟩) HS.out ?_; rotate_left
                · (intro w9 hSw; (try dsimp only at hSw); go_simp; try (with_reducible rfl))
                try simp only [Act.put, List.setIfInBounds_toArray, List.set_cons_zero, List.set_cons_succ]
                refine anyR_take (i := 7) (oi := { dst := some 109, op := .load 3 (.tmp 13), type := 3, pos := "law.go:156", after := #[{ on := 4, ground := .guard }], guard := some (4, false) }) (v := ?_) rfl (by kernel_rfl) (fun _ _ _ h => h) (Or.inl ⟨by rfl, ?_⟩) HS.out ?_; rotate_left
                · (intro w9 hSw; (try dsimp only at hSw); go_simp; try (with_reducible rfl))
                try simp only [Act.put, List.setIfInBounds_toArray, List.set_cons_zero, List.set_cons_succ]
                refine anyR_take (i := 8) (oi := { dst := some 110, op := .indexAddr 48 (.tmp 108) (.tmp 109), type := 0, pos := "law.go:156", after := #[{ on := 6, ground := .data }, { on := 7, ground := .data }, { on := 4, ground := .guard }], guard := some (4, false) }) (v := ?_) rfl (by kernel_rfl) (fun _ _ _ h => h) (Or.inl ⟨by rfl, ?_⟩) HS.out ?_; rotate_left
                · (intro w9 hSw; (try dsimp only at hSw); go_simp; try (with_reducible rfl))
                try simp only [Act.put, List.setIfInBounds_toArray, List.set_cons_zero, List.set_cons_succ]
                refine anyR_take (i := 9) (oi := { dst := some 111, op := .load 30 (.tmp 110), type := 30, pos := "law.go:156", after := #[{ on := 8, ground := .data }, { on := 4, ground := .guard }], guard := some (4, false) }) (v := ?_) rfl (by kernel_rfl) (fun _ _ _ h => h) (Or.inl ⟨by rfl, ?_⟩) HS.out ?_; rotate_left
                · (intro w9 hSw; (try dsimp only at hSw); go_simp; try (with_reducible rfl))
                try simp only [Act.put, List.setIfInBounds_toArray, List.set_cons_zero, List.set_cons_succ]
                by_cases htu : t = u
                · have HTU := Lib.hid htu
                  obtain ⟨b, hbi, hbq⟩ : ∃ b : Bool, (b = false ↔ t = u) ∧ b = false := ⟨false, iff_of_true rfl htu, rfl⟩
                  have HBI := Lib.hid hbi
                  have HBQ := Lib.hid hbq
                  clear htu hbi hbq
                  refine anyR_take (i := 10) (oi := { dst := some 112, op := .binOp .neq 30 (.tmp 107) (.tmp 111) 30, type := 4, pos := "law.go:156", after := #[{ on := 5, ground := .data }, { on := 9, ground := .data }, { on := 4, ground := .guard }], guard := some (4, false) }) (v := .bool b) rfl (by kernel_rfl) (fun _ _ _ h => h) (Or.inl ⟨by rfl, ?_⟩) HS.out ?_
                  · intro w9 hSw; (try dsimp only at hSw); go_simp; exact tk_neq HBI.out w9
                  try simp only [Act.put, List.setIfInBounds_toArray, List.set_cons_zero, List.set_cons_succ]
                  have hbq := HBQ.out
                  subst hbq
                  refine anyR_take (i := 11) (oi := { dst := some 113, op := .pick (.tmp 106) (.const (.bool true)) (.tmp 112), type := 4, pos := "law.go:156", after := #[{ on := 4, ground := .data }, { on := 10, ground := .data }], guard := none }) (v := ?_) rfl (by kernel_rfl) (fun _ _ _ h => h) (Or.inl ⟨by rfl, ?_⟩) HS.out ?_; rotate_left
                  · (intro w9 hSw; (try dsimp only at hSw); go_simp; try (with_reducible rfl))
                  try simp only [Act.put, List.setIfInBounds_toArray, List.set_cons_zero, List.set_cons_succ]
                  refine anyR_done (by kernel_rfl) ?_ _
                  simp only [Exit.then]
                  have hnx : LI w16 V2 w16.heap.size w16.heap.size (toks x) (pre ++ [t]) (Vd.setCell ⟨w16.heap.size, 0, none⟩ (.int .i64 ((pre.length : Int) + 1))) := HIV.out.next (Nat.le_refl _) ((tok_pre HIV.out.pre HU.out).2 HTU.out)
                  have hkk : KeepsFrom V2.heap.size V (Vd.setCell ⟨w16.heap.size, 0, none⟩ (.int .i64 ((pre.length : Int) + 1))) ∧ KpT w16 V (Vd.setCell ⟨w16.heap.size, 0, none⟩ (.int .i64 ((pre.length : Int) + 1))) := ⟨HREL.out.1.trans ((KeepsOthers.setCell _ _ _).from _), HREL.out.2.trans (KpT.setBox _ HIV.out.box (Nat.le_refl _))⟩
                  obtain ⟨Ve, hVe⟩ : ∃ U, Vd.setCell ⟨w16.heap.size, 0, none⟩ (.int .i64 ((pre.length : Int) + 1)) = U := ⟨_, rfl⟩
                  rw [hVe] at hnx hkk
                  have hbk : Boxed Ve w16.heap.size 3 (.int .i64 ((pre.length : Int) + 1)) := by rw [← hVe]; exact HIV.out.box.set _
                  have ek := hbk.cell
                  have HBKe := Lib.hid hbk
                  have HNX9 := Lib.hid hnx
                  have HKK := Lib.hid hkk
                  clear hnx hkk hbk
                  by_cases hek : 2 < (pre.length : Int) + 1
                  · have de : decide (2 < (pre.length : Int) + 1) = true := decide_eq_true hek
                    clear hek
                    gi_wp2
                    exact ⟨HKK.out.1, HKK.out.2, HNX9.out⟩
                  · have de : decide (2 < (pre.length : Int) + 1) = false := decide_eq_false hek
                    clear hek
                    have hbe : Below w16.heap.size w16 Ve := HB2.out.trans HNX9.out.kp.below
                    obtain ⟨Vj, hVj⟩ : ∃ U, Ve.alloc (.cells #[.int .i64 0] 3) = U := ⟨_, rfl⟩
                    have hbj : Boxed Vj Ve.heap.size 3 (.int .i64 0) := by rw [← hVj]; exact Boxed.new _ _ _
                    have cj := hbj.cell
                    have fj := hbj.frozen
                    obtain ⟨Vs, hVs⟩ : ∃ U, Vj.setCell ⟨Ve.heap.size, 0, none⟩ (.int .i64 0) = U := ⟨_, rfl⟩
                    have hbs : Boxed Vs Ve.heap.size 3 (.int .i64 0) := by rw [← hVs]; exact hbj.set _
                    have hbes : Below Ve.heap.size Ve Vs := by rw [← hVs, ← hVj]; exact ((Below.refl _ Ve).alloc (Nat.le_refl _) _).setCell (p := ⟨Ve.heap.size, 0, none⟩) (Nat.le_refl _) _
                    have hkes : KeepsFrom w16.heap.size Ve Vs := by rw [← hVs, ← hVj]; exact ((KeepsOthers.alloc _ _).trans (KeepsOthers.setCell _ _ _)).from _
                    have hb16 : Below w16.heap.size w16 Vs := hbe.trans (hbes.mono hbe.size)
                    have hks : Boxed Vs w16.heap.size 3 (.int .i64 ((pre.length : Int) + 1)) := (hbes.block _ HBKe.out.lt).trans HBKe.out
                    have cs3 := (HTA.out.below hb16).seq.cell
                    obtain ⟨rl, hr⟩ := HLP.out
                    have hrs : Vs.heap[l]? = some (.loop rl) := (hbes.block _ (blk_lt (HKK.out.1.same l _ HLL.out hr rfl))).trans (HKK.out.1.same l _ HLL.out hr rfl)
                    have HRS := Lib.hid hrs
                    have HBS3 := Lib.hid hbs
                    have HBES := Lib.hid hbes
                    have HKES := Lib.hid hkes
                    have HB16 := Lib.hid hb16
                    have HKS := Lib.hid hks
                    clear hbe hbj hbs hbes hkes hb16 hks hr hrs
                    gi_wp2
                    clear cj fj cs3 hVs hVj hVe ek ck fk cr fr de HBI HBQ d1 d2 g1 g2 HS
                    have HSZ : Hid (w16.heap.size ≤ Ve.heap.size ∧ w16.heap.size < Ve.heap.size) := Lib.hid ⟨Nat.le_of_lt HBKe.out.lt, HBKe.out.lt⟩
                    refine wpIn_rangeFunc_ownN (l₀ := l) (r₀ := rl) rfl HRS.out (by decide) (gf := 32) (lb := #[.pointer (some ⟨w11.heap.size, 0, none⟩)]) rfl trivial (enters_of Try.func32 (by kernel_rfl) rfl)
                      ((toks_stops 5 (by decide) w16 x (some ⟨g, 0, none⟩) (x.f2.length + 1) (Nat.le_succ _) (by have := HNX.out; omega) HKC.out w16 (Below.refl _ _) w11.heap.size HTA.out.bn).inRound l)
                      (fun h h' => KpT.trans h h') (fun V l o o' hl h hc _ => KpT.putObj o' (Nat.le_trans HB16.out.size hl) h hc) HB16.out (fun _ => rfl)
                      (fun q U => LI w16 Vs w16.heap.size Ve.heap.size (toks x) q U ∧ Boxed U w16.heap.size 3 (.int .i64 ((pre.length : Int) + 1)))
                      (fun c q U => c = .ret ∧ ¬ q <+: toks x)
                      (OwnFrom.and (LI.own HB16.out.size (Nat.le_refl _)) (Own.from (boxed_own _ _ (fun _ => .int .i64 ((pre.length : Int) + 1))) _)) (fun c => ownFrom_pure _ _)
                      ⟨⟨KpT.refl _ _, KeepsFrom.refl _ _, HBS3.out, List.nil_prefix⟩, HKS.out⟩
                      (fun y a' U => ∃ By, Vs.heap.size ≤ By ∧ U.heap[By]? = some (.cells #[.int .u8 y.f0, .string y.f1, .int .i64 y.f2.f0, .int .i64 y.f2.f1, .int .i64 y.f2.f2, .int .i64 y.f3] 30 (0, 0)) ∧ a' = { tmps := #[.agg #[.int .u8 x.f0, .int .u8 x.f1.f0, .string x.f1.f1, .int .i64 x.f1.f2.f0, .int .i64 x.f1.f2.f1, .int .i64 x.f1.f2.f2, .int .i64 x.f1.f3, .slice A x.f2.length c], .int .i64 ea, .pointer (some ⟨W.heap.size, 0, none⟩), .pointer (some ⟨W.heap.size + 1, 0, none⟩), .pointer (some ⟨W.heap.size + 1 + 1, 0, none⟩), .bool true, .pointer (some ⟨w4.heap.size, 0, none⟩), .slice (some ⟨g6, 0, none⟩) (tells x).length c6, .slice A7 (tells x).length c7, .bool true, .int .i64 ↑i, .pointer (some ⟨w10.heap.size, 0, none⟩), .pointer (some ⟨w12.heap.size, 0, none⟩), .pointer (some ⟨w16.heap.size, 0, none⟩), undef, .pointer (some ⟨Bx, 0, none⟩), .pointer (some ⟨Ve.heap.size, 0, none⟩), .pointer (some ⟨By, 0, none⟩), undef, .bool true, .bool true, .bool false, .bool false, .agg #[.int .u8 x.f0, .int .u8 x.f1.f0, .string x.f1.f1, .int .i64 x.f1.f2.f0, .int .i64 x.f1.f2.f1, .int .i64 x.f1.f2.f2, .int .i64 x.f1.f3, .slice A x.f2.length c], .int .i64 r, .bool false, .bool false, undef, .agg #[.int .u8 x.f0, .int .u8 x.f1.f0, .string x.f1.f1, .int .i64 x.f1.f2.f0, .int .i64 x.f1.f2.f1, .int .i64 x.f1.f2.f2, .int .i64 x.f1.f3, .slice A x.f2.length c], .agg #[.int .u8 x.f0, .int .u8 x.f1.f0, .string x.f1.f1, .int .i64 x.f1.f2.f0, .int .i64 x.f1.f2.f1, .int .i64 x.f1.f2.f2, .int .i64 x.f1.f3, .slice (some ⟨g, 0, none⟩) x.f2.length (x.f2.length + 1)], .agg #[.int .u8 x.f0, .int .u8 x.f1.f0, .string x.f1.f1, .int .i64 x.f1.f2.f0, .int .i64 x.f1.f2.f1, .int .i64 x.f1.f2.f2, .int .i64 x.f1.f3, .slice (some ⟨g, 0, none⟩) x.f2.length (x.f2.length + 1)], .slice (some ⟨g6, 0, none⟩) (tells x).length c6, .agg #[.int .u8 x.f0, .int .u8 x.f1.f0, .string x.f1.f1, .int .i64 x.f1.f2.f0, .int .i64 x.f1.f2.f1, .int .i64 x.f1.f2.f2, .int .i64 x.f1.f3, .slice A x.f2.length c], .slice A7 (tells x).length c7, .slice (some ⟨g6, 0, none⟩) (tells x).length c6, .slice A7 (tells x).length c7, .bool true, .int .i64 ↑i, .slice (some ⟨g6, 0, none⟩) (tells x).length c6, .int .i64 ↑(tells x).length, .bool false, u41, u42, u43, u44, u45, u46, .agg #[.int .u8 x.f0, .int .u8 x.f1.f0, .string x.f1.f1, .int .i64 x.f1.f2.f0, .int .i64 x.f1.f2.f1, .int .i64 x.f1.f2.f2, .int .i64 x.f1.f3, .slice A x.f2.length c], .slice (some ad) (toks x).length c10, .agg #[.int .u8 x.f0, .int .u8 x.f1.f0, .string x.f1.f1, .int .i64 x.f1.f2.f0, .int .i64 x.f1.f2.f1, .int .i64 x.f1.f2.f2, .int .i64 x.f1.f3, .slice (some ⟨g, 0, none⟩) x.f2.length (x.f2.length + 1)], .func (.func 32) #[] #[.pointer (some ⟨w11.heap.size, 0, none⟩)], .func (.func 32) #[] #[.pointer (some ⟨w11.heap.size, 0, none⟩)], .bool false, .bool false, .bool true, .bool false, .bool false, .bool false, .agg #[.int .u8 x.f0, .int .u8 x.f1.f0, .string x.f1.f1, .int .i64 x.f1.f2.f0, .int .i64 x.f1.f2.f1, .int .i64 x.f1.f2.f2, .int .i64 x.f1.f3, .slice (some ⟨g, 0, none⟩) x.f2.length (x.f2.length + 1)], .int .i64 ↑(dep x), .agg #[.int .u8 x.f0, .int .u8 x.f1.f0, .string x.f1.f1, .int .i64 x.f1.f2.f0, .int .i64 x.f1.f2.f1, .int .i64 x.f1.f2.f2, .int .i64 x.f1.f3, .slice A x.f2.length c], .int .i64 ↑(dep x), .bool false, .bool false, .int .i64 ea, .bool false, undef, undef, undef, .int .i64 ea, .slice (some ad) (toks x).length c10, .int .i64 ↑(toks x).length, .int .i64 (↑(toks x).length + 1), .int .i64 E, .func (.func 32) #[] #[.pointer (some ⟨w11.heap.size, 0, none⟩)], undef, undef, undef, undef, undef, undef, undef, undef, undef, undef, undef, undef, undef, undef, undef, undef, undef, undef, .int .i64 E, u94, u95, u96, u97, u98, .bool false, .func (.func 32) #[] #[.pointer (some ⟨w11.heap.size, 0, none⟩)], .agg #[.int .u8 t.f0, .string t.f1, .int .i64 t.f2.f0, .int .i64 t.f2.f1, .int .i64 t.f2.f2, .int .i64 t.f3], .int .i64 ↑pre.length, .slice (some ad) (toks x).length c10, .int .i64 ↑(toks x).length, .bool false, .bool false, .agg #[.int .u8 t.f0, .string t.f1, .int .i64 t.f2.f0, .int .i64 t.f2.f1, .int .i64 t.f2.f2, .int .i64 t.f3], .slice (some ad) (toks x).length c10, .int .i64 ↑pre.length, .pointer (some (ad.add (pre.length * 6))), .agg #[.int .u8 u.f0, .string u.f1, .int .i64 u.f2.f0, .int .i64 u.f2.f1, .int .i64 u.f2.f2, .int .i64 u.f3], .bool false, .bool false, .int .i64 ↑pre.length, .int .i64 (↑pre.length + 1), .int .i64 (↑pre.length + 1), .bool false, .func (.func 32) #[] #[.pointer (some ⟨w11.heap.size, 0, none⟩)], .agg #[.int .u8 y.f0, .string y.f1, .int .i64 y.f2.f0, .int .i64 y.f2.f1, .int .i64 y.f2.f2, .int .i64 y.f3], undef, undef, undef, undef, undef, undef, undef, undef, undef, undef, undef, undef, undef, undef, undef, undef, undef, undef, undef, undef, undef, undef, undef, undef, undef, undef, undef, undef], defers := [] }) ?hAx3 ?assign3 ?body3 ?done3 ?stop3
                    case hAx3 =>
                      rintro y a' _ X Y row ⟨By, h1, h2, h3⟩ hg hr
                      refine ⟨By, h1, (hg.block By (Array.getElem?_eq_some_iff.1 h2).1 fun e => ?_).trans h2, h3⟩
                      obtain ⟨_, o, ho, hc⟩ := hr By e.symm
                      rw [h2] at ho; cases ho; cases hc
                    case assign3 =>
                      rintro l2 q y U K hI hK
                      unfold tkV
                      gi_wp2
                      exact hK _ _ ((KeepsOthers.alloc _ _).from _) (KpT.alloc (Nat.le_trans HB16.out.size hI.1.keeps.size) _) ⟨hI.1.alloc HB16.out.size _, hI.2.alloc _⟩ ⟨U.heap.size, hI.1.keeps.size, World.alloc_heap_new _ _, rfl⟩
                    case body3 =>
                      rintro l2 q y a' U hl hloop ⟨hI, hbu⟩ ⟨By, hBy, hcx, rfl⟩ hlt
                      obtain ⟨z, hz⟩ : ∃ z, (toks x)[q.length]? = some z := ⟨_, List.getElem?_eq_getElem hlt⟩
                      obtain ⟨Ud, hUd⟩ : ∃ X, U.drew = X := ⟨_, rfl⟩
                      have hId : LI w16 Vs w16.heap.size Ve.heap.size (toks x) q Ud := by rw [← hUd]; exact hI.drew
                      have hrel : KeepsFrom Vs.heap.size U Ud ∧ KpT w16 U Ud := by rw [← hUd]; exact ⟨(KeepsOthers.drew U).from _, KpT.drew _ _⟩
                      have hcd : Ud.heap[By]? = some (.cells #[.int .u8 y.f0, .string y.f1, .int .i64 y.f2.f0, .int .i64 y.f2.f1, .int .i64 y.f2.f2, .int .i64 y.f3] 30 (0, 0)) := by rw [← hUd]; exact hcx
                      have hbd : Boxed Ud w16.heap.size 3 (.int .i64 ((pre.length : Int) + 1)) := by rw [← hUd]; exact hbu
                      have hta := HTA.out.below (HB16.out.trans (hId.kp.below))
                      obtain ⟨ad2, had, hrow⟩ := tok_at hta.row q.length z hlt hz
                      rw [← (Option.some.inj had)] at hrow
                      have HS : Hid (Ud.cell? ⟨Ve.heap.size, 0, none⟩ = some (.int .i64 (q.length : Nat)) ∧ Ud.cell? ⟨w10.heap.size, 0, none⟩ = some (.slice (some ad) (toks x).length c10) ∧ (Ud.cell? ⟨By, 0, none⟩ = some (.int .u8 y.f0) ∧ Ud.cell? ⟨By, 1, none⟩ = some (.string y.f1) ∧ Ud.cell? ⟨By, 2, none⟩ = some (.int .i64 y.f2.f0) ∧ Ud.cell? ⟨By, 3, none⟩ = some (.int .i64 y.f2.f1) ∧ Ud.cell? ⟨By, 4, none⟩ = some (.int .i64 y.f2.f2) ∧ Ud.cell? ⟨By, 5, none⟩ = some (.int .i64 y.f3)) ∧ (Ud.cell? (ad.add (q.length * 6)) = some (.int .u8 z.f0) ∧ Ud.cell? ⟨(ad.add (q.length * 6)).block, (ad.add (q.length * 6)).off + 1, none⟩ = some (.string z.f1) ∧ Ud.cell? ⟨(ad.add (q.length * 6)).block, (ad.add (q.length * 6)).off + 2, none⟩ = some (.int .i64 z.f2.f0) ∧ Ud.cell? ⟨(ad.add (q.length * 6)).block, (ad.add (q.length * 6)).off + 3, none⟩ = some (.int .i64 z.f2.f1) ∧ Ud.cell? ⟨(ad.add (q.length * 6)).block, (ad.add (q.length * 6)).off + 4, none⟩ = some (.int .i64 z.f2.f2) ∧ Ud.cell? ⟨(ad.add (q.length * 6)).block, (ad.add (q.length * 6)).off + 5, none⟩ = some (.int .i64 z.f3))) := Lib.hid ⟨hId.box.cell, hta.tks.cell, ⟨cell_of_row _ _ _ _ _ _ hcd, cell_of_row _ _ _ _ _ _ hcd, cell_of_row _ _ _ _ _ _ hcd, cell_of_row _ _ _ _ _ _ hcd, cell_of_row _ _ _ _ _ _ hcd, cell_of_row _ _ _ _ _ _ hcd⟩, hrow⟩
                      have HUZ := Lib.hid hz
                      have HIU := Lib.hid hId
                      have HREU := Lib.hid hrel
                      have HKU := Lib.hid hbd
                      have HUd := Lib.hid hUd
                      have d1 : decide (((toks x).length : Int) ≤ (q.length : Int)) = false := decide_eq_false (by omega)
                      have d2 : decide ((toks x).length ≤ q.length) = false := decide_eq_false (by omega)
                      have g1 : (0 : Int) ≤ (q.length : Int) := by omega
                      have g2 : (q.length : Int) < ((toks x).length : Int) := by omega
                      have cr := hta.res.cell
                      have fr := hta.res.frozen
                      have ck := hId.box.cell
                      have fk := hId.box.frozen
                      clear hI hbu hcx hz hUd hId hrel hcd hbd hta hrow had hloop hl
                      refine wpIn_block ?_
                      repeat refine wpIn_seq ?_
                      refine wp_region_RIn (fun w' => w'.cell? ⟨Ve.heap.size, 0, none⟩ = some (.int .i64 (q.length : Nat)) ∧ w'.cell? ⟨w10.heap.size, 0, none⟩ = some (.slice (some ad) (toks x).length c10) ∧ (w'.cell? ⟨By, 0, none⟩ = some (.int .u8 y.f0) ∧ w'.cell? ⟨By, 1, none⟩ = some (.string y.f1) ∧ w'.cell? ⟨By, 2, none⟩ = some (.int .i64 y.f2.f0) ∧ w'.cell? ⟨By, 3, none⟩ = some (.int .i64 y.f2.f1) ∧ w'.cell? ⟨By, 4, none⟩ = some (.int .i64 y.f2.f2) ∧ w'.cell? ⟨By, 5, none⟩ = some (.int .i64 y.f3)) ∧ (w'.cell? (ad.add (q.length * 6)) = some (.int .u8 z.f0) ∧ w'.cell? ⟨(ad.add (q.length * 6)).block, (ad.add (q.length * 6)).off + 1, none⟩ = some (.string z.f1) ∧ w'.cell? ⟨(ad.add (q.length * 6)).block, (ad.add (q.length * 6)).off + 2, none⟩ = some (.int .i64 z.f2.f0) ∧ w'.cell? ⟨(ad.add (q.length * 6)).block, (ad.add (q.length * 6)).off + 3, none⟩ = some (.int .i64 z.f2.f1) ∧ w'.cell? ⟨(ad.add (q.length * 6)).block, (ad.add (q.length * 6)).off + 4, none⟩ = some (.int .i64 z.f2.f2) ∧ w'.cell? ⟨(ad.add (q.length * 6)).block, (ad.add (q.length * 6)).off + 5, none⟩ = some (.int .i64 z.f3))) (fun _ => true) (by kernel_rfl) (by kernel_rfl) ?_
                      rw [HUd.out]
                      refine anyR_take (i := 0) (oi := { dst := some 120, op := .load 3 (.tmp 16), type := 3, pos := "law.go:165", after := #[], guard := none }) (v := ?_) rfl (by kernel_rfl) (fun _ _ _ h => h) (Or.inl ⟨by rfl, ?_⟩) HS.out ?_; rotate_left
                      · (intro w9 hSw; (try dsimp only at hSw); go_simp; try (with_reducible rfl))
                      try simp only [Act.put, List.setIfInBounds_toArray, List.set_cons_zero, List.set_cons_succ]
                      refine anyR_take (i := 1) (oi := { dst := some 121, op := .load 48 (.tmp 11), type := 48, pos := "law.go:165", after := #[], guard := none }) (v := ?_) rfl (by kernel_rfl) (fun _ _ _ h => h) (Or.inl ⟨by rfl, ?_⟩) HS.out ?_; rotate_left
                      · (intro w9 hSw; (try dsimp only at hSw); go_simp; try (with_reducible rfl))
                      try simp only [Act.put, List.setIfInBounds_toArray, List.set_cons_zero, List.set_cons_succ]
                      refine anyR_take (i := 2) (oi := { dst := some 122, op := .call { callee := .builtin .len, args := #[.tmp 121], argTypes := #[48] }, type := 3, pos := "law.go:165", after := #[{ on := 1, ground := .data }], guard := none }) (v := ?_) rfl (by kernel_rfl) (fun _ _ _ h => h) (Or.inl ⟨by rfl, ?_⟩) HS.out ?_; rotate_left
                      · (intro w9 hSw; (try dsimp only at hSw); go_simp; try (with_reducible rfl))
                      try simp only [Act.put, List.setIfInBounds_toArray, List.set_cons_zero, List.set_cons_succ]
                      refine anyR_take (i := 3) (oi := { dst := some 123, op := .binOp .geq 3 (.tmp 120) (.tmp 122) 3, type := 4, pos := "law.go:165", after := #[{ on := 0, ground := .data }, { on := 2, ground := .data }], guard := none }) (v := ?_) rfl (by kernel_rfl) (fun _ _ _ h => h) (Or.inl ⟨by rfl, ?_⟩) HS.out ?_; rotate_left
                      · (intro w9 hSw; (try dsimp only at hSw); go_simp; try (with_reducible rfl))
                      try simp only [Act.put, List.setIfInBounds_toArray, List.set_cons_zero, List.set_cons_succ]
                      refine anyR_take (i := 4) (oi := { dst := some 124, op := .move (.tmp 123), type := 4, pos := "law.go:165", after := #[{ on := 3, ground := .data }], guard := none }) (v := ?_) rfl (by kernel_rfl) (fun _ _ _ h => h) (Or.inl ⟨by rfl, ?_⟩) HS.out ?_; rotate_left
                      · (intro w9 hSw; (try dsimp only at hSw); go_simp; try (with_reducible rfl))
                      try simp only [Act.put, List.setIfInBounds_toArray, List.set_cons_zero, List.set_cons_succ]
                      refine anyR_take (i := 5) (oi := { dst := some 125, op := .load 30 (.tmp 17), type := 30, pos := "law.go:165", after := #[{ on := 4, ground := .guard }], guard := some (4, false) }) (v := ?_) rfl (by kernel_rfl) (fun _ _ _ h => h) (Or.inl ⟨by rfl, ?_⟩) HS.out ?_; rotate_left
                      · (intro w9 hSw; (try dsimp only at hSw); go_simp; try (with_reducible rfl))
                      try simp only [Act.put, List.setIfInBounds_toArray, List.set_cons_zero, List.set_cons_succ]
                      refine anyR_take (i := 6) (oi := { dst := some 126, op := .load 48 (.tmp 11), type := 48, pos := "law.go:165", after := #[{ on := 4, ground := .guard }], guard := some (4, false) }) (v := ?_) rfl (by kernel_rfl) (fun _ _ _ h => h) (Or.inl ⟨by rfl, ?_⟩) HS.out ?_; rotate_left
                      · (intro w9 hSw; (try dsimp only at hSw); go_simp; try (with_reducible rfl))
                      try simp only [Act.put, List.setIfInBounds_toArray, List.set_cons_zero, List.set_cons_succ]
                      refine anyR_take (i := 7) (oi := { dst := some 127, op := .load 3 (.tmp 16), type := 3, pos := "law.go:165", after := #[{ on := 4, ground := .guard }], guard := some (4, false) }) (v := ?_) rfl (by kernel_rfl) (fun _ _ _ h => h) (Or.inl ⟨by rfl, ?_⟩) HS.out ?_; rotate_left
                      · (intro w9 hSw; (try dsimp only at hSw); go_simp; try (with_reducible rfl))
                      try simp only [Act.put, List.setIfInBounds_toArray, List.set_cons_zero, List.set_cons_succ]
                      refine anyR_take (i := 8) (oi := { dst := some 128, op := .indexAddr 48 (.tmp 126) (.tmp 127), type := 0, pos := "law.go:165", after := #[{ on := 6, ground := .data }, { on := 7, ground := .data }, { on := 4, ground := .guard }], guard := some (4, false) }) (v := ?_) rfl (by kernel_rfl) (fun _ _ _ h => h) (Or.inl ⟨by rfl, ?_⟩) HS.out ?_; rotate_left
                      · (intro w9 hSw; (try dsimp only at hSw); go_simp; try (with_reducible rfl))
                      try simp only [Act.put, List.setIfInBounds_toArray, List.set_cons_zero, List.set_cons_succ]
                      refine anyR_take (i := 9) (oi := { dst := some 129, op := .load 30 (.tmp 128), type := 30, pos := "law.go:165", after := #[{ on := 8, ground := .data }, { on := 4, ground := .guard }], guard := some (4, false) }) (v := ?_) rfl (by kernel_rfl) (fun _ _ _ h => h) (Or.inl ⟨by rfl, ?_⟩) HS.out ?_; rotate_left
                      · (intro w9 hSw; (try dsimp only at hSw); go_simp; try (with_reducible rfl))
                      try simp only [Act.put, List.setIfInBounds_toArray, List.set_cons_zero, List.set_cons_succ]
                      by_cases htu : y = z
                      · have HTU := Lib.hid htu
                        obtain ⟨b, hbi, hbq⟩ : ∃ b : Bool, (b = false ↔ y = z) ∧ b = false := ⟨false, iff_of_true rfl htu, rfl⟩
                        have HBI := Lib.hid hbi
                        have HBQ := Lib.hid hbq
                        clear htu hbi hbq
                        refine anyR_take (i := 10) (oi := { dst := some 130, op := .binOp .neq 30 (.tmp 125) (.tmp 129) 30, type := 4, pos := "law.go:165", after := #[{ on := 5, ground := .data }, { on := 9, ground := .data }, { on := 4, ground := .guard }], guard := some (4, false) }) (v := .bool b) rfl (by kernel_rfl) (fun _ _ _ h => h) (Or.inl ⟨by rfl, ?_⟩) HS.out ?_
                        · intro w9 hSw; (try dsimp only at hSw); go_simp; exact tk_neq HBI.out w9
                        try simp only [Act.put, List.setIfInBounds_toArray, List.set_cons_zero, List.set_cons_succ]
                        have hbq := HBQ.out
                        subst hbq
                        refine anyR_take (i := 11) (oi := { dst := some 131, op := .pick (.tmp 124) (.const (.bool true)) (.tmp 130), type := 4, pos := "law.go:165", after := #[{ on := 4, ground := .data }, { on := 10, ground := .data }], guard := none }) (v := ?_) rfl (by kernel_rfl) (fun _ _ _ h => h) (Or.inl ⟨by rfl, ?_⟩) HS.out ?_; rotate_left
                        · (intro w9 hSw; (try dsimp only at hSw); go_simp; try (with_reducible rfl))
                        try simp only [Act.put, List.setIfInBounds_toArray, List.set_cons_zero, List.set_cons_succ]
                        refine anyR_done (by kernel_rfl) ?_ _
                        simp only [Exit.then]
                        have hnx : LI w16 Vs w16.heap.size Ve.heap.size (toks x) (q ++ [y]) (Ud.setCell ⟨Ve.heap.size, 0, none⟩ (.int .i64 ((q.length : Int) + 1))) := HIU.out.next HSZ.out.1 ((tok_pre HIU.out.pre HUZ.out).2 HTU.out)
                        have hkk : KeepsFrom Vs.heap.size U (Ud.setCell ⟨Ve.heap.size, 0, none⟩ (.int .i64 ((q.length : Int) + 1))) ∧ KpT w16 U (Ud.setCell ⟨Ve.heap.size, 0, none⟩ (.int .i64 ((q.length : Int) + 1))) := ⟨HREU.out.1.trans ((KeepsOthers.setCell _ _ _).from _), HREU.out.2.trans (KpT.setBox _ HIU.out.box HSZ.out.1)⟩
                        have hbk := HKU.out.other (show w16.heap.size ≠ Ve.heap.size by have := HSZ.out.2; omega) (.int .i64 ((q.length : Int) + 1))
                        have HFIN := Lib.hid (And.intro hkk (And.intro hnx hbk))
                        clear hnx hkk hbk
                        gi_wp2
                        exact ⟨HFIN.out.1.1, HFIN.out.1.2, HFIN.out.2.1, HFIN.out.2.2⟩
                      · have HTU := Lib.hid htu
                        obtain ⟨b, hbi, hbq⟩ : ∃ b : Bool, (b = false ↔ y = z) ∧ b = true := ⟨true, iff_of_false Bool.noConfusion htu, rfl⟩
                        have HBI := Lib.hid hbi
                        have HBQ := Lib.hid hbq
                        clear htu hbi hbq
                        refine anyR_take (i := 10) (oi := { dst := some 130, op := .binOp .neq 30 (.tmp 125) (.tmp 129) 30, type := 4, pos := "law.go:165", after := #[{ on := 5, ground := .data }, { on := 9, ground := .data }, { on := 4, ground := .guard }], guard := some (4, false) }) (v := .bool b) rfl (by kernel_rfl) (fun _ _ _ h => h) (Or.inl ⟨by rfl, ?_⟩) HS.out ?_
                        · intro w9 hSw; (try dsimp only at hSw); go_simp; exact tk_neq HBI.out w9
                        try simp only [Act.put, List.setIfInBounds_toArray, List.set_cons_zero, List.set_cons_succ]
                        have hbq := HBQ.out
                        subst hbq
                        refine anyR_take (i := 11) (oi := { dst := some 131, op := .pick (.tmp 124) (.const (.bool true)) (.tmp 130), type := 4, pos := "law.go:165", after := #[{ on := 4, ground := .data }, { on := 10, ground := .data }], guard := none }) (v := ?_) rfl (by kernel_rfl) (fun _ _ _ h => h) (Or.inl ⟨by rfl, ?_⟩) HS.out ?_; rotate_left
                        · (intro w9 hSw; (try dsimp only at hSw); go_simp; try (with_reducible rfl))
                        try simp only [Act.put, List.setIfInBounds_toArray, List.set_cons_zero, List.set_cons_succ]
                        refine anyR_done (by kernel_rfl) ?_ _
                        simp only [Exit.then]
                        gi_wp2
                        exact ⟨HREU.out.1.trans ((KeepsOthers.setCell _ _ _).from _), rfl, fun h => HTU.out ((tok_pre HIU.out.pre HUZ.out).1 h)⟩
                    case done3 =>
                      rintro ys U rfl ⟨hL, hk⟩
                      have hta := HTA.out.below (HB16.out.trans hL.kp.below)
                      have ct := hta.tks.cell
                      have cj := hL.box.cell
                      have hall : KeepsFrom V2.heap.size V U ∧ KpT w16 V U ∧ LI w16 V2 w16.heap.size w16.heap.size (toks x) (pre ++ [t]) U := by
                        have hkp : KpT w16 Ve U := (KpT.of_below HBES.out HSZ.out.1).trans hL.kp
                        have hke : KeepsFrom w16.heap.size Ve U := HKES.out.trans hL.keeps
                        have hke2 : KeepsFrom V2.heap.size Ve U := ⟨hke.size, fun k o hk => hke.same k o (Nat.le_trans HB2.out.size hk)⟩
                        refine ⟨HKK.out.1.trans hke2, HKK.out.2.trans hkp, HNX9.out.kp.trans hkp, HNX9.out.keeps.trans hke, ?_, HNX9.out.pre⟩
                        have hl : (((pre ++ [t]).length : Nat) : Int) = (pre.length : Int) + 1 := by simp
                        rw [hl]
                        exact hk
                      have HALL := Lib.hid hall
                      clear hall hta hL hk
                      gi_wp2
                      exact HALL.out
                    case stop3 =>
                      rintro c' q U hq ⟨rfl, hbad⟩
                      exact absurd hq hbad
                · have HTU := Lib.hid htu
                  obtain ⟨b, hbi, hbq⟩ : ∃ b : Bool, (b = false ↔ t = u) ∧ b = true := ⟨true, iff_of_false Bool.noConfusion htu, rfl⟩
                  have HBI := Lib.hid hbi
                  have HBQ := Lib.hid hbq
                  clear htu hbi hbq
                  refine anyR_take (i := 10) (oi := { dst := some 112, op := .binOp .neq 30 (.tmp 107) (.tmp 111) 30, type := 4, pos := "law.go:156", after := #[{ on := 5, ground := .data }, { on := 9, ground := .data }, { on := 4, ground := .guard }], guard := some (4, false) }) (v := .bool b) rfl (by kernel_rfl) (fun _ _ _ h => h) (Or.inl ⟨by rfl, ?_⟩) HS.out ?_
                  · intro w9 hSw; (try dsimp only at hSw); go_simp; exact tk_neq HBI.out w9
                  try simp only [Act.put, List.setIfInBounds_toArray, List.set_cons_zero, List.set_cons_succ]
                  have hbq := HBQ.out
                  subst hbq
                  refine anyR_take (i := 11) (oi := { dst := some 113, op := .pick (.tmp 106) (.const (.bool true)) (.tmp 112), type := 4, pos := "law.go:156", after := #[{ on := 4, ground := .data }, { on := 10, ground := .data }], guard := none }) (v := ?_) rfl (by kernel_rfl) (fun _ _ _ h => h) (Or.inl ⟨by rfl, ?_⟩) HS.out ?_; rotate_left
                  · (intro w9 hSw; (try dsimp only at hSw); go_simp; try (with_reducible rfl))
                  try simp only [Act.put, List.setIfInBounds_toArray, List.set_cons_zero, List.set_cons_succ]
                  refine anyR_done (by kernel_rfl) ?_ _
                  simp only [Exit.then]
                  gi_wp2
                  exact ⟨HREL.out.1.trans ((KeepsOthers.setCell _ _ _).from _), rfl, fun h => HTU.out ((tok_pre HIV.out.pre HU.out).1 h)⟩
              case done2 =>
                rintro D2 ys V hD2 rfl hI hDef2
                simp only [Exit.inBlock, Exit.then]
                have hta := HTA.out.below (HB2.out.trans hI.kp.below)
                have hDV : V.heap[D]? = some (.deferred (some [])) := hI.keeps.same D _ (Nat.le_of_lt HDW.out) HD2.out rfl
                have hDlt := blk_lt HD2.out
                have hbWV : Below W.heap.size W V := HBW.out.trans ((HB2.out.trans hI.kp.below).mono HBW.out.size)
                have HKE := Lib.hid (kept_any (nds x) x A c g w3.heap.size V (Nat.le_refl _) (by have := HNX.out; omega) HLC.out hta.kid hta.cop)
                have HTV := Lib.hid hta
                have HIB := Lib.hid hI.box
                have HDV := Lib.hid (And.intro hDV hDef2)
                have HNE : Hid (w16.heap.size < D ∧ D < D2 ∧ W.heap.size + 1 + 1 < w16.heap.size) := Lib.hid ⟨HDW.out, by omega, HZ.out⟩
                have HWV := Lib.hid hbWV
                obtain ⟨p0, p1, p2, p3, p4, p5, p6, p7⟩ := nd_box hta.bx V (Below.refl _ _)
                obtain ⟨q0, q1, q2, q3, q4, q5, q6, q7⟩ := nd_box hta.bm V (Below.refl _ _)
                clear hta hDV hDef2 hDlt hbWV hI hD2
                gi_wp2_with (refine ⟨trivial, ?_⟩; gi_at_call 18; refine (callsIn_wide.2 HKE.out).mono ?_; rintro e U ⟨rfl, hbU⟩; have HBU := Lib.hid hbU; have htU := HTV.out.below hbU; have ckU := Boxed.cell ((hbU.block _ HIB.out.lt).trans HIB.out); have ctU := htU.tks.cell; have crU := htU.res.cell; have frU := htU.res.frozen; have HTU := Lib.hid htU; clear htU hbU q0 q1 q2 q3 q4 q5 q6 q7 p0 p1 p2 p3 p4 p5 p6 p7)
                obtain ⟨n1, n2, n3⟩ := HNE.out
                have hd2 : (U.setCell ⟨W.heap.size + 1 + 1, 0, none⟩ (.bool true)).heap[D2]? = some (.deferred (some [])) := ((grownBy_setCell' U _ _).block D2 (Nat.lt_of_lt_of_le (blk_lt HDV.out.2) HBU.out.size) (fun e => by cases e; omega)).trans ((HBU.out.block _ (blk_lt HDV.out.2)).trans HDV.out.2)
                have hd1 : (U.setCell ⟨W.heap.size + 1 + 1, 0, none⟩ (.bool true)).heap[D]? = some (.deferred (some [])) := ((grownBy_setCell' U _ _).block D (Nat.lt_of_lt_of_le (blk_lt HDV.out.1) HBU.out.size) (fun e => by cases e; omega)).trans ((HBU.out.block _ (blk_lt HDV.out.1)).trans HDV.out.1)
                have hbf : Below W.heap.size W (U.setCell ⟨W.heap.size + 1 + 1, 0, none⟩ (.bool true)) := (HWV.out.trans (HBU.out.mono HWV.out.size)).setCell (p := ⟨W.heap.size + 1 + 1, 0, none⟩) (show W.heap.size ≤ W.heap.size + 1 + 1 by omega) _
                have hrf := HTU.out.res.set (.bool true)
                obtain ⟨Uf, hUf⟩ : ∃ X, U.setCell ⟨W.heap.size + 1 + 1, 0, none⟩ (.bool true) = X := ⟨_, rfl⟩
                rw [hUf] at hd2 hd1 hbf hrf
                try rw [hUf]
                have hz := hbf.size
                refine same_leave (b := true) rfl rfl hd2 hd1 (by omega) hrf ⟨rfl, ?_⟩
                exact (hbf.grown (grownBy_putObj' _ D2 _) hz (fun j e => by cases e; omega)).grown (grownBy_putObj' _ D _) (Nat.le_trans hz (grownBy_putObj' _ D2 _).size) (fun j e => by cases e; omega)
              case stop2 =>
                rintro D2 c' pre V hD2 hpre ⟨rfl, hbad⟩ hDef2
                exact absurd hpre hbad
          case loop =>
            refine wpIn_rangeFunc_ownH rfl (by decide) (gf := 32) (lb := #[.pointer (some ⟨w11.heap.size, 0, none⟩)]) rfl trivial (enters_of Try.func32 (by kernel_rfl) rfl)
              (toks_stops 7 (by decide) w16 x (some ⟨g, 0, none⟩) (x.f2.length + 1) (Nat.le_succ _) (by have := HNX.out; omega) HKC.out w16 (Below.refl _ _) w11.heap.size HTA.out.bn)
              (fun h h' => KpT.trans h h') (fun V l o o' hl h hc _ => KpT.putObj o' (Nat.le_trans HB18.out.size hl) h hc) HB18.out (fun _ => rfl)
              (fun pre V => LI w16 w18 w18.heap.size w16.heap.size (toks x) pre V ∧ (E = 0 ∨ (pre.length : Int) < E))
              (fun c pre V => (c = .exit 2 ∧ LI w16 w18 w18.heap.size w16.heap.size (toks x) pre V ∧ ((pre.length : Int) = E ∧ 0 < E)) ∨ (c = .ret ∧ ¬ pre <+: toks x))
              (OwnFrom.and (LI.own HB18.out.size (Nat.le_refl _)) (ownFrom_pure _ _)) (fun c => own_or (LI.own HB18.out.size (Nat.le_refl _)) _ _ _)
              ⟨⟨KpT.refl _ _, KeepsFrom.refl _ _, HK18.out, List.nil_prefix⟩, by have := HE.out.1; simp only [List.length_nil]; omega⟩
              (fun t a' V => ∃ Bx, w18.heap.size ≤ Bx ∧ V.heap[Bx]? = some (.cells #[.int .u8 t.f0, .string t.f1, .int .i64 t.f2.f0, .int .i64 t.f2.f1, .int .i64 t.f2.f2, .int .i64 t.f3] 30 (0, 0)) ∧ a' = { tmps := #[.agg #[.int .u8 x.f0, .int .u8 x.f1.f0, .string x.f1.f1, .int .i64 x.f1.f2.f0, .int .i64 x.f1.f2.f1, .int .i64 x.f1.f2.f2, .int .i64 x.f1.f3, .slice A x.f2.length c], .int .i64 ea, .pointer (some ⟨W.heap.size, 0, none⟩), .pointer (some ⟨W.heap.size + 1, 0, none⟩), .pointer (some ⟨W.heap.size + 1 + 1, 0, none⟩), .bool true, .pointer (some ⟨w4.heap.size, 0, none⟩), .slice (some ⟨g6, 0, none⟩) (tells x).length c6, .slice A7 (tells x).length c7, .bool true, .int .i64 ↑i, .pointer (some ⟨w10.heap.size, 0, none⟩), .pointer (some ⟨w12.heap.size, 0, none⟩), .pointer (some ⟨w16.heap.size, 0, none⟩), .pointer (some ⟨Bx, 0, none⟩), undef, undef, undef, undef, .bool true, .bool true, .bool false, .bool false, .agg #[.int .u8 x.f0, .int .u8 x.f1.f0, .string x.f1.f1, .int .i64 x.f1.f2.f0, .int .i64 x.f1.f2.f1, .int .i64 x.f1.f2.f2, .int .i64 x.f1.f3, .slice A x.f2.length c], .int .i64 r, .bool false, .bool false, undef, .agg #[.int .u8 x.f0, .int .u8 x.f1.f0, .string x.f1.f1, .int .i64 x.f1.f2.f0, .int .i64 x.f1.f2.f1, .int .i64 x.f1.f2.f2, .int .i64 x.f1.f3, .slice A x.f2.length c], .agg #[.int .u8 x.f0, .int .u8 x.f1.f0, .string x.f1.f1, .int .i64 x.f1.f2.f0, .int .i64 x.f1.f2.f1, .int .i64 x.f1.f2.f2, .int .i64 x.f1.f3, .slice (some ⟨g, 0, none⟩) x.f2.length (x.f2.length + 1)], .agg #[.int .u8 x.f0, .int .u8 x.f1.f0, .string x.f1.f1, .int .i64 x.f1.f2.f0, .int .i64 x.f1.f2.f1, .int .i64 x.f1.f2.f2, .int .i64 x.f1.f3, .slice (some ⟨g, 0, none⟩) x.f2.length (x.f2.length + 1)], .slice (some ⟨g6, 0, none⟩) (tells x).length c6, .agg #[.int .u8 x.f0, .int .u8 x.f1.f0, .string x.f1.f1, .int .i64 x.f1.f2.f0, .int .i64 x.f1.f2.f1, .int .i64 x.f1.f2.f2, .int .i64 x.f1.f3, .slice A x.f2.length c], .slice A7 (tells x).length c7, .slice (some ⟨g6, 0, none⟩) (tells x).length c6, .slice A7 (tells x).length c7, .bool true, .int .i64 ↑i, .slice (some ⟨g6, 0, none⟩) (tells x).length c6, .int .i64 ↑(tells x).length, .bool false, u41, u42, u43, u44, u45, u46, .agg #[.int .u8 x.f0, .int .u8 x.f1.f0, .string x.f1.f1, .int .i64 x.f1.f2.f0, .int .i64 x.f1.f2.f1, .int .i64 x.f1.f2.f2, .int .i64 x.f1.f3, .slice A x.f2.length c], .slice A10 (toks x).length c10, .agg #[.int .u8 x.f0, .int .u8 x.f1.f0, .string x.f1.f1, .int .i64 x.f1.f2.f0, .int .i64 x.f1.f2.f1, .int .i64 x.f1.f2.f2, .int .i64 x.f1.f3, .slice (some ⟨g, 0, none⟩) x.f2.length (x.f2.length + 1)], .func (.func 32) #[] #[.pointer (some ⟨w11.heap.size, 0, none⟩)], .func (.func 32) #[] #[.pointer (some ⟨w11.heap.size, 0, none⟩)], .bool false, .bool false, .bool true, .bool false, .bool false, .bool false, .agg #[.int .u8 x.f0, .int .u8 x.f1.f0, .string x.f1.f1, .int .i64 x.f1.f2.f0, .int .i64 x.f1.f2.f1, .int .i64 x.f1.f2.f2, .int .i64 x.f1.f3, .slice (some ⟨g, 0, none⟩) x.f2.length (x.f2.length + 1)], .int .i64 ↑(dep x), .agg #[.int .u8 x.f0, .int .u8 x.f1.f0, .string x.f1.f1, .int .i64 x.f1.f2.f0, .int .i64 x.f1.f2.f1, .int .i64 x.f1.f2.f2, .int .i64 x.f1.f3, .slice A x.f2.length c], .int .i64 ↑(dep x), .bool false, .bool false, .int .i64 ea, .bool false, undef, undef, undef, .int .i64 ea, .slice A10 (toks x).length c10, .int .i64 ↑(toks x).length, .int .i64 (↑(toks x).length + 1), .int .i64 E, .func (.func 32) #[] #[.pointer (some ⟨w11.heap.size, 0, none⟩)], .agg #[.int .u8 t.f0, .string t.f1, .int .i64 t.f2.f0, .int .i64 t.f2.f1, .int .i64 t.f2.f2, .int .i64 t.f3], undef, undef, undef, undef, undef, undef, undef, undef, undef, undef, undef, undef, undef, undef, undef, undef, undef, undef, undef, undef, undef, undef, undef, undef, undef, undef, undef, undef, undef, undef, undef, undef, undef, undef, undef, undef, undef, undef, undef, undef, undef, undef, undef, undef, undef, undef, undef, undef, undef, undef, undef, undef, undef, undef, undef, undef, undef, undef, undef, undef, undef, undef, undef, undef, undef, undef, undef, undef, undef, undef, undef, undef], defers := [] }) ?hAx ?assign ?body ?done ?stop
            case hAx =>
              rintro t a' _ X Y row ⟨Bx, h1, h2, h3⟩ hg hr
              refine ⟨Bx, h1, (hg.block Bx (Array.getElem?_eq_some_iff.1 h2).1 fun e => ?_).trans h2, h3⟩
              obtain ⟨_, o, ho, hc⟩ := hr Bx e.symm
              rw [h2] at ho; cases ho; cases hc
            case assign =>
              rintro l pre t V K hI hK
              unfold tkV
              gi_wp2
              exact hK _ _ ((KeepsOthers.alloc _ _).from _) (KpT.alloc (Nat.le_trans HB18.out.size hI.1.keeps.size) _) ⟨hI.1.alloc HB18.out.size _, hI.2⟩ ⟨V.heap.size, hI.1.keeps.size, World.alloc_heap_new _ _, rfl⟩
            case body =>
              rintro l pre t a' V hl hloop ⟨hI, hz⟩ ⟨Bx, hBx, hcx, rfl⟩ hlt
              obtain ⟨u, hu⟩ : ∃ u, (toks x)[pre.length]? = some u := ⟨_, List.getElem?_eq_getElem hlt⟩
              obtain ⟨Vd, hVd⟩ : ∃ U, V.drew = U := ⟨_, rfl⟩
              have hId : LI w16 w18 w18.heap.size w16.heap.size (toks x) pre Vd := by rw [← hVd]; exact hI.drew
              have hrel : KeepsFrom w18.heap.size V Vd ∧ KpT w16 V Vd := by rw [← hVd]; exact ⟨(KeepsOthers.drew V).from _, KpT.drew _ _⟩
              have hcd : Vd.heap[Bx]? = some (.cells #[.int .u8 t.f0, .string t.f1, .int .i64 t.f2.f0, .int .i64 t.f2.f1, .int .i64 t.f2.f2, .int .i64 t.f3] 30 (0, 0)) := by rw [← hVd]; exact hcx
              have hta := HTA.out.below (HB18.out.trans (hId.kp.below))
              obtain ⟨ad, rfl, hrow⟩ := tok_at hta.row pre.length u hlt hu
              have HS : Hid (Vd.cell? ⟨w16.heap.size, 0, none⟩ = some (.int .i64 (pre.length : Nat)) ∧ Vd.cell? ⟨w10.heap.size, 0, none⟩ = some (.slice (some ad) (toks x).length c10) ∧ (Vd.cell? ⟨Bx, 0, none⟩ = some (.int .u8 t.f0) ∧ Vd.cell? ⟨Bx, 1, none⟩ = some (.string t.f1) ∧ Vd.cell? ⟨Bx, 2, none⟩ = some (.int .i64 t.f2.f0) ∧ Vd.cell? ⟨Bx, 3, none⟩ = some (.int .i64 t.f2.f1) ∧ Vd.cell? ⟨Bx, 4, none⟩ = some (.int .i64 t.f2.f2) ∧ Vd.cell? ⟨Bx, 5, none⟩ = some (.int .i64 t.f3)) ∧ (Vd.cell? (ad.add (pre.length * 6)) = some (.int .u8 u.f0) ∧ Vd.cell? ⟨(ad.add (pre.length * 6)).block, (ad.add (pre.length * 6)).off + 1, none⟩ = some (.string u.f1) ∧ Vd.cell? ⟨(ad.add (pre.length * 6)).block, (ad.add (pre.length * 6)).off + 2, none⟩ = some (.int .i64 u.f2.f0) ∧ Vd.cell? ⟨(ad.add (pre.length * 6)).block, (ad.add (pre.length * 6)).off + 3, none⟩ = some (.int .i64 u.f2.f1) ∧ Vd.cell? ⟨(ad.add (pre.length * 6)).block, (ad.add (pre.length * 6)).off + 4, none⟩ = some (.int .i64 u.f2.f2) ∧ Vd.cell? ⟨(ad.add (pre.length * 6)).block, (ad.add (pre.length * 6)).off + 5, none⟩ = some (.int .i64 u.f3))) := Lib.hid ⟨hId.box.cell, hta.tks.cell, ⟨cell_of_row _ _ _ _ _ _ hcd, cell_of_row _ _ _ _ _ _ hcd, cell_of_row _ _ _ _ _ _ hcd, cell_of_row _ _ _ _ _ _ hcd, cell_of_row _ _ _ _ _ _ hcd, cell_of_row _ _ _ _ _ _ hcd⟩, hrow⟩
              have HU := Lib.hid hu
              have HIV := Lib.hid hId
              have HZ1 := Lib.hid hz
              have HREL := Lib.hid hrel
              have HTD := Lib.hid hta
              have HVd := Lib.hid hVd
              have HLT := Lib.hid hlt
              have d1 : decide (((toks x).length : Int) ≤ (pre.length : Int)) = false := decide_eq_false (by omega)
              have d2 : decide ((toks x).length ≤ pre.length) = false := decide_eq_false (by omega)
              have g1 : (0 : Int) ≤ (pre.length : Int) := by omega
              have g2 : (pre.length : Int) < ((toks x).length : Int) := by omega
              have cr := hta.res.cell
              have fr := hta.res.frozen
              have ck := hId.box.cell
              have fk := hId.box.frozen
              have ce := hta.early.cell
              clear hI hz hcx hu hVd hId hrel hcd hta hrow hloop hl
              refine wpIn_block ?_
              repeat refine wpIn_seq ?_
              refine wp_region_RIn (fun w' => w'.cell? ⟨w16.heap.size, 0, none⟩ = some (.int .i64 (pre.length : Nat)) ∧ w'.cell? ⟨w10.heap.size, 0, none⟩ = some (.slice (some ad) (toks x).length c10) ∧ (w'.cell? ⟨Bx, 0, none⟩ = some (.int .u8 t.f0) ∧ w'.cell? ⟨Bx, 1, none⟩ = some (.string t.f1) ∧ w'.cell? ⟨Bx, 2, none⟩ = some (.int .i64 t.f2.f0) ∧ w'.cell? ⟨Bx, 3, none⟩ = some (.int .i64 t.f2.f1) ∧ w'.cell? ⟨Bx, 4, none⟩ = some (.int .i64 t.f2.f2) ∧ w'.cell? ⟨Bx, 5, none⟩ = some (.int .i64 t.f3)) ∧ (w'.cell? (ad.add (pre.length * 6)) = some (.int .u8 u.f0) ∧ w'.cell? ⟨(ad.add (pre.length * 6)).block, (ad.add (pre.length * 6)).off + 1, none⟩ = some (.string u.f1) ∧ w'.cell? ⟨(ad.add (pre.length * 6)).block, (ad.add (pre.length * 6)).off + 2, none⟩ = some (.int .i64 u.f2.f0) ∧ w'.cell? ⟨(ad.add (pre.length * 6)).block, (ad.add (pre.length * 6)).off + 3, none⟩ = some (.int .i64 u.f2.f1) ∧ w'.cell? ⟨(ad.add (pre.length * 6)).block, (ad.add (pre.length * 6)).off + 4, none⟩ = some (.int .i64 u.f2.f2) ∧ w'.cell? ⟨(ad.add (pre.length * 6)).block, (ad.add (pre.length * 6)).off + 5, none⟩ = some (.int .i64 u.f3))) (fun _ => true) (by kernel_rfl) (by kernel_rfl) ?_
              rw [HVd.out]
              refine anyR_take (i := 0) (oi := { dst := some 76, op := .load 3 (.tmp 13), type := 3, pos := "law.go:143", after := #[], guard := none }) (v := ?_) rfl (by kernel_rfl) (fun _ _ _ h => h) (Or.inl ⟨by rfl, ?_⟩) HS.out ?_; rotate_left
              · (intro w9 hSw; (try dsimp only at hSw); go_simp; try (with_reducible rfl))
              try simp only [Act.put, List.setIfInBounds_toArray, List.set_cons_zero, List.set_cons_succ]
              refine anyR_take (i := 1) (oi := { dst := some 77, op := .load 48 (.tmp 11), type := 48, pos := "law.go:143", after := #[], guard := none }) (v := ?_) rfl (by kernel_rfl) (fun _ _ _ h => h) (Or.inl ⟨by rfl, ?_⟩) HS.out ?_; rotate_left
              · (intro w9 hSw; (try dsimp only at hSw); go_simp; try (with_reducible rfl))
              try simp only [Act.put, List.setIfInBounds_toArray, List.set_cons_zero, List.set_cons_succ]
              refine anyR_take (i := 2) (oi := { dst := some 78, op := .call { callee := .builtin .len, args := #[.tmp 77], argTypes := #[48] }, type := 3, pos := "law.go:143", after := #[{ on := 1, ground := .data }], guard := none }) (v := ?_) rfl (by kernel_rfl) (fun _ _ _ h => h) (Or.inl ⟨by rfl, ?_⟩) HS.out ?_; rotate_left
              · (intro w9 hSw; (try dsimp only at hSw); go_simp; try (with_reducible rfl))
              try simp only [Act.put, List.setIfInBounds_toArray, List.set_cons_zero, List.set_cons_succ]
              refine anyR_take (i := 3) (oi := { dst := some 79, op := .binOp .geq 3 (.tmp 76) (.tmp 78) 3, type := 4, pos := "law.go:143", after := #[{ on := 0, ground := .data }, { on := 2, ground := .data }], guard := none }) (v := ?_) rfl (by kernel_rfl) (fun _ _ _ h => h) (Or.inl ⟨by rfl, ?_⟩) HS.out ?_; rotate_left
              · (intro w9 hSw; (try dsimp only at hSw); go_simp; try (with_reducible rfl))
              try simp only [Act.put, List.setIfInBounds_toArray, List.set_cons_zero, List.set_cons_succ]
              refine anyR_take (i := 4) (oi := { dst := some 80, op := .move (.tmp 79), type := 4, pos := "law.go:143", after := #[{ on := 3, ground := .data }], guard := none }) (v := ?_) rfl (by kernel_rfl) (fun _ _ _ h => h) (Or.inl ⟨by rfl, ?_⟩) HS.out ?_; rotate_left
              · (intro w9 hSw; (try dsimp only at hSw); go_simp; try (with_reducible rfl))
              try simp only [Act.put, List.setIfInBounds_toArray, List.set_cons_zero, List.set_cons_succ]
              refine anyR_take (i := 5) (oi := { dst := some 81, op := .load 30 (.tmp 14), type := 30, pos := "law.go:143", after := #[{ on := 4, ground := .guard }], guard := some (4, false) }) (v := ?_) rfl (by kernel_rfl) (fun _ _ _ h => h) (Or.inl ⟨by rfl, ?_⟩) HS.out ?_; rotate_left
              · (intro w9 hSw; (try dsimp only at hSw); go_simp; try (with_reducible rfl))
              try simp only [Act.put, List.setIfInBounds_toArray, List.set_cons_zero, List.set_cons_succ]
              refine anyR_take (i := 6) (oi := { dst := some 82, op := .load 48 (.tmp 11), type := 48, pos := "law.go:143", after := #[{ on := 4, ground := .guard }], guard := some (4, false) }) (v := ?_) rfl (by kernel_rfl) (fun _ _ _ h => h) (Or.inl ⟨by rfl, ?_⟩) HS.out ?_; rotate_left
              · (intro w9 hSw; (try dsimp only at hSw); go_simp; try (with_reducible rfl))
              try simp only [Act.put, List.setIfInBounds_toArray, List.set_cons_zero, List.set_cons_succ]
              refine anyR_take (i := 7) (oi := { dst := some 83, op := .load 3 (.tmp 13), type := 3, pos := "law.go:143", after := #[{ on := 4, ground := .guard }], guard := some (4, false) }) (v := ?_) rfl (by kernel_rfl) (fun _ _ _ h => h) (Or.inl ⟨by rfl, ?_⟩) HS.out ?_; rotate_left
              · (intro w9 hSw; (try dsimp only at hSw); go_simp; try (with_reducible rfl))
              try simp only [Act.put, List.setIfInBounds_toArray, List.set_cons_zero, List.set_cons_succ]
              refine anyR_take (i := 8) (oi := { dst := some 84, op := .indexAddr 48 (.tmp 82) (.tmp 83), type := 0, pos := "law.go:143", after := #[{ on := 6, ground := .data }, { on := 7, ground := .data }, { on := 4, ground := .guard }], guard := some (4, false) }) (v := ?_) rfl (by kernel_rfl) (fun _ _ _ h => h) (Or.inl ⟨by rfl, ?_⟩) HS.out ?_; rotate_left
              · (intro w9 hSw; (try dsimp only at hSw); go_simp; try (with_reducible rfl))
              try simp only [Act.put, List.setIfInBounds_toArray, List.set_cons_zero, List.set_cons_succ]
              refine anyR_take (i := 9) (oi := { dst := some 85, op := .load 30 (.tmp 84), type := 30, pos := "law.go:143", after := #[{ on := 8, ground := .data }, { on := 4, ground := .guard }], guard := some (4, false) }) (v := ?_) rfl (by kernel_rfl) (fun _ _ _ h => h) (Or.inl ⟨by rfl, ?_⟩) HS.out ?_; rotate_left
              · (intro w9 hSw; (try dsimp only at hSw); go_simp; try (with_reducible rfl))
              try simp only [Act.put, List.setIfInBounds_toArray, List.set_cons_zero, List.set_cons_succ]
              by_cases htu : t = u
              · have HTU := Lib.hid htu
                obtain ⟨b, hbi, hbq⟩ : ∃ b : Bool, (b = false ↔ t = u) ∧ b = false := ⟨false, iff_of_true rfl htu, rfl⟩
                have HBI := Lib.hid hbi
                have HBQ := Lib.hid hbq
                clear htu hbi hbq
                refine anyR_take (i := 10) (oi := { dst := some 86, op := .binOp .neq 30 (.tmp 81) (.tmp 85) 30, type := 4, pos := "law.go:143", after := #[{ on := 5, ground := .data }, { on := 9, ground := .data }, { on := 4, ground := .guard }], guard := some (4, false) }) (v := .bool b) rfl (by kernel_rfl) (fun _ _ _ h => h) (Or.inl ⟨by rfl, ?_⟩) HS.out ?_
                · intro w9 hSw; (try dsimp only at hSw); go_simp; exact tk_neq HBI.out w9
                try simp only [Act.put, List.setIfInBounds_toArray, List.set_cons_zero, List.set_cons_succ]
                have hbq := HBQ.out
                subst hbq
                refine anyR_take (i := 11) (oi := { dst := some 87, op := .pick (.tmp 80) (.const (.bool true)) (.tmp 86), type := 4, pos := "law.go:143", after := #[{ on := 4, ground := .data }, { on := 10, ground := .data }], guard := none }) (v := ?_) rfl (by kernel_rfl) (fun _ _ _ h => h) (Or.inl ⟨by rfl, ?_⟩) HS.out ?_; rotate_left
                · (intro w9 hSw; (try dsimp only at hSw); go_simp; try (with_reducible rfl))
                try simp only [Act.put, List.setIfInBounds_toArray, List.set_cons_zero, List.set_cons_succ]
                refine anyR_done (by kernel_rfl) ?_ _
                simp only [Exit.then]
                have hnx : LI w16 w18 w18.heap.size w16.heap.size (toks x) (pre ++ [t]) (Vd.setCell ⟨w16.heap.size, 0, none⟩ (.int .i64 ((pre.length : Int) + 1))) := HIV.out.next (Nat.le_refl _) ((tok_pre HIV.out.pre HU.out).2 HTU.out)
                have hkk : KeepsFrom w18.heap.size V (Vd.setCell ⟨w16.heap.size, 0, none⟩ (.int .i64 ((pre.length : Int) + 1))) ∧ KpT w16 V (Vd.setCell ⟨w16.heap.size, 0, none⟩ (.int .i64 ((pre.length : Int) + 1))) := ⟨HREL.out.1.trans ((KeepsOthers.setCell _ _ _).from _), HREL.out.2.trans (KpT.setBox _ HIV.out.box (Nat.le_refl _))⟩
                obtain ⟨Ve, hVe⟩ : ∃ U, Vd.setCell ⟨w16.heap.size, 0, none⟩ (.int .i64 ((pre.length : Int) + 1)) = U := ⟨_, rfl⟩
                rw [hVe] at hnx hkk
                have ek : Ve.cell? ⟨w16.heap.size, 0, none⟩ = some (.int .i64 ((pre.length : Int) + 1)) := by rw [← hVe]; exact (HIV.out.box.set _).cell
                have ee : Ve.cell? ⟨W.heap.size + 1, 0, none⟩ = some (.int .i64 E) := by rw [← hVe]; exact (HTD.out.early.other (by have := HZ.out; omega) _).cell
                have HNX9 := Lib.hid hnx
                have HKK := Lib.hid hkk
                clear hnx hkk
                by_cases hek : (pre.length : Int) + 1 = E
                · have de : ((pre.length : Int) + 1 == E) = true := by simp [hek]
                  have de2 : decide ((pre.length : Int) + 1 = E) = true := decide_eq_true hek
                  have HEK := Lib.hid hek
                  clear hek
                  gi_wp2
                  exact ⟨HKK.out.1, .inl ⟨rfl, HNX9.out, by rw [List.length_append]; have := HEK.out; simp; omega, by have := HEK.out; omega⟩⟩
                · have de : ((pre.length : Int) + 1 == E) = false := by simp [hek]
                  have de2 : decide ((pre.length : Int) + 1 = E) = false := decide_eq_false hek
                  have HEK := Lib.hid hek
                  gi_wp2
                  exact ⟨HKK.out.1, HKK.out.2, HNX9.out, by rw [List.length_append]; have := HEK.out; have := HZ1.out; simp; omega⟩
              · have HTU := Lib.hid htu
                obtain ⟨b, hbi, hbq⟩ : ∃ b : Bool, (b = false ↔ t = u) ∧ b = true := ⟨true, iff_of_false Bool.noConfusion htu, rfl⟩
                have HBI := Lib.hid hbi
                have HBQ := Lib.hid hbq
                clear htu hbi hbq
                refine anyR_take (i := 10) (oi := { dst := some 86, op := .binOp .neq 30 (.tmp 81) (.tmp 85) 30, type := 4, pos := "law.go:143", after := #[{ on := 5, ground := .data }, { on := 9, ground := .data }, { on := 4, ground := .guard }], guard := some (4, false) }) (v := .bool b) rfl (by kernel_rfl) (fun _ _ _ h => h) (Or.inl ⟨by rfl, ?_⟩) HS.out ?_
                · intro w9 hSw; (try dsimp only at hSw); go_simp; exact tk_neq HBI.out w9
                try simp only [Act.put, List.setIfInBounds_toArray, List.set_cons_zero, List.set_cons_succ]
                have hbq := HBQ.out
                subst hbq
                refine anyR_take (i := 11) (oi := { dst := some 87, op := .pick (.tmp 80) (.const (.bool true)) (.tmp 86), type := 4, pos := "law.go:143", after := #[{ on := 4, ground := .data }, { on := 10, ground := .data }], guard := none }) (v := ?_) rfl (by kernel_rfl) (fun _ _ _ h => h) (Or.inl ⟨by rfl, ?_⟩) HS.out ?_; rotate_left
                · (intro w9 hSw; (try dsimp only at hSw); go_simp; try (with_reducible rfl))
                try simp only [Act.put, List.setIfInBounds_toArray, List.set_cons_zero, List.set_cons_succ]
                refine anyR_done (by kernel_rfl) ?_ _
                simp only [Exit.then]
                gi_wp2
                exact ⟨HREL.out.1.trans ((KeepsOthers.setCell _ _ _).from _), .inr ⟨rfl, fun h => HTU.out ((tok_pre HIV.out.pre HU.out).1 h)⟩⟩
            case done =>
              rintro D ys V hD rfl ⟨hI, hz⟩ hDef
              exact ⟨.inl rfl, D, _, V, rfl, rfl, hD, hDef, hI.kp, hI.box, fun h0 => by have := HE.out.2; omega⟩
            case stop =>
              rintro D c' pre V hD hpre (⟨rfl, hI, h1, h2⟩ | ⟨rfl, hbad⟩) hDef
              · exact wpIn_exit ⟨.inr rfl, D, _, V, rfl, rfl, hD, hDef, hI.kp, hI.box, fun _ => h1⟩
              · exact absurd hpre hbad
  · have d3 : decide (16777216 < r) = true := decide_eq_true hs
    gi_wp2_with (first
      | (refine ⟨trivial, ?_⟩; gi_at_call 8; refine (callsIn_wide.2 (HAW.out W1)).mono ?_; rintro e w2 ⟨rfl, hb2⟩; have HB2 := Lib.hid hb2; obtain ⟨q0, q1, q2, q3, q4, q5, q6, q7⟩ := HNB.out w2 hb2; clear hb2)
      | (refine ⟨trivial, ?_⟩; gi_at_call 14; refine (callsIn_wide.2 (HWT.out w2 HB2.out)).mono ?_; rintro e w3 ⟨rfl, hb3⟩; have HB3 := Lib.hid (HB2.out.trans (hb3.mono HB2.out.size)); clear hb3 q0 q1 q2 q3 q4 q5 q6 q7; have hr3 := (HB3.out.block _ (blk_lt HRB.out)).trans HRB.out; have HR3 := Lib.hid hr3; have rc := Boxed.cell hr3; have rf := Boxed.frozen hr3; clear hr3))
    exact ⟨_, results_cellB rfl _ _ (W.heap.size + 1 + 1) true rfl ((show Boxed w3 (W.heap.size + 1 + 1) 4 (.bool false) from HR3.out).set (.bool true)).cell, rfl, (HB1.out.trans (HB3.out.mono HB1.out.size)).setCell (p := ⟨W.heap.size + 1 + 1, 0, none⟩) (show W.heap.size ≤ W.heap.size + 1 + 1 by omega) _⟩
theorem treeTells_walk (x : Nd) (A : Option Addr) (c : Nat) (ea : Int) (W : World) (hlc : x.f2.length ≤ c) (hC : Kd.C kNd W A x.f2.length x.f2) (he0 : -9223372036854775808 ≤ ea) (he1 : ea ≤ 9223372036854775807) :
    Calls Try.prog 7 #[.agg #[.int .u8 x.f0, .int .u8 x.f1.f0, .string x.f1.f1, .int .i64 x.f1.f2.f0, .int .i64 x.f1.f2.f1, .int .i64 x.f1.f2.f2, .int .i64 x.f1.f3, .slice A x.f2.length c], .int .i64 ea] W fun e w' => e = .returned (.bool true) ∧ Below W.heap.size W w' := treeTells_main x A c ea W he0 he1 hlc hC
end Go.Proofs.Ytfefldkljbbbpaa
