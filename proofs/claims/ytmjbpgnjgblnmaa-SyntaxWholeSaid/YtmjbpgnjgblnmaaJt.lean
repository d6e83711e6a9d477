/- SyntaxWhole: whatever the tokens, the law returns true; nothing that was there changes. -/
import Derived.Test.YtmjbpgnjgblnmaaJs
import Derived.Test.YtmjbpgnjgblnmaaJp
import Derived.Test.YtmjbpgnjgblnmaaJq
import Derived.Test.YtmjbpgnjgblnmaaJr
import Derived.Test.YtmjbpgnjgblnmaaRows
import Derived.WalkKit
import Derived.ProofKit
import Derived.OpenShut
import Derived.ShutString
import Derived.ChangeOld
import Derived.Below
import Derived.SizedLaws
import Derived.Deep.DeepHandedRow
set_option linter.unusedVariables false
set_option linter.unusedSimpArgs false
namespace Go.Proofs.Ytmjbpgnjgblnmaa
open Go.RowKit Go.Shelf Go.Proofs.YtmjbpgnjgblnmaaW.PrintWords Go.Proofs.YtmjbpgnjgblnmaaW.PrintLast Go.Proofs.YtmjbpgnjgblnmaaW.PrintMore
attribute [local go_sem] Oper.semAt_some
theorem nil_row (w : World) (base : Nat) (e : TypeId) (size : Nat) : w.ownsRow base e size (.slice none 0 0) 0 [] := ⟨by simp, .inl ⟨rfl, rfl⟩⟩
theorem infoTk : (Try.prog.info? 35).map (fun i => (i.zero, i.size, i.bytes)) = some (some (.agg #[.int .u8 0, .string ⟨#[]⟩, .int .i64 0, .int .i64 0, .int .i64 0, .int .i64 0]), 6, 56) := by kernel_rfl
theorem infoTk6 : (Try.prog.info? 35).map (·.size) = some 6 := by kernel_rfl
theorem infoPl3 : (Try.prog.info? 33).map (·.size) = some 3 := by kernel_rfl
theorem infoInt1 : (Try.prog.info? 3).map (·.size) = some 1 := by kernel_rfl
theorem tkCells_one (t : Tk) : ∀ v ∈ tkCells t, v.oneCell' = true := by
 intro v hv; simp only [tkCells, List.mem_cons, List.not_mem_nil, or_false] at hv; rcases hv with rfl | rfl | rfl | rfl | rfl | rfl <;> rfl
theorem ints_one (a b c : Int) : ∀ v ∈ [Value.int .i64 a, .int .i64 b, .int .i64 c], v.oneCell' = true := by
 intro v hv; simp only [List.mem_cons, List.not_mem_nil, or_false] at hv; rcases hv with rfl | rfl | rfl <;> rfl
theorem tok_reps (V : World) (l : List Tk) : Reps (kTk.K V) 6 l (l.flatMap tkCells) := by
 induction l with
 | nil => exact Reps.none _ _
 | cons x l ih =>
  have := Kd.reps_append ((Reps.none (kTk.K V) 6).snoc (PSyntaxWhole.k35_mk V x) rfl) ih
  rw [List.nil_append, List.nil_append, List.singleton_append] at this
  exact this
theorem toks_C {V : World} {base : Nat} {v : Value} {l : List Tk} (h : V.ownsRow base 35 6 v l.length (l.flatMap tkCells)) : ∃ A c, v = .slice A l.length c ∧ l.length ≤ c ∧ Kd.C kTk V A l.length l := by
 obtain ⟨A, c, hv, hr⟩ := own_reads_row (size := 6) h (tok_reps V l) rfl
 obtain ⟨A2, c2, hv2, hc⟩ := row_slice h
 subst hv
 injection hv2 with h1 h2 h3
 subst h3
 exact ⟨A, _, rfl, hc, hr⟩
theorem set_part {g off : Nat} {W : World} {cur : Array Value} {e : TypeId} {seg : List Value} (hh : W.heap[g]? = some (.cells cur e (0, 0))) (hl : off + seg.length ≤ cur.size) : ∃ V, W.setCells g off seg = V ∧ V.heap[g]? = some (.cells (cur.toList.take off ++ seg ++ cur.toList.drop (off + seg.length)).toArray e (0, 0)) ∧ Tr.Upd g W V := by
 obtain ⟨cur', h3, h4, h5⟩ := setCells_row seg off W cur hh hl
 have hs := setCells_same g seg off W
 refine ⟨_, rfl, ?_, ⟨fun k hk => setCells_far seg off k hk, hs.1, hs.2.1, hs.2.2.1, hs.2.2.2⟩⟩
 rw [h3]
 congr 2
 apply Array.toList_inj.1
 rw [h5]
structure WInv (W3 : World) (l : List Tk) (i : Nat) (wr : World) (v : Value) : Prop where
 below : Below W3.heap.size W3 wr
 row : wr.ownsRow W3.heap.size 35 6 v (plainT l i).length ((plainT l i).flatMap tkCells)
structure WAt (V : World) (b g3 g6 : Nat) (A : Option Addr) (c : Nat) (l : List Tk) (X Y : Tr.Nd) (A2 : Option Addr) (ca2 : Nat) (A5 : Option Addr) (ca5 : Nat) : Prop where
 box : V.heap[b]? = some (.cells #[.slice A l.length c] 22 (0, 0))
 res : Boxed V (b + 1) 4 (.bool false)
 nx : V.heap[g3]? = some (.cells (Tr.ndCells X.f0 X.f1 (.slice A2 X.f2.length ca2)).toArray 51 (0, 0))
 ny : V.heap[g6]? = some (.cells (Tr.ndCells Y.f0 Y.f1 (.slice A5 Y.f2.length ca5)).toArray 51 (0, 0))
 toks : Kd.C kTk V A l.length l
 kx : Kd.C Tr.kNd V A2 X.f2.length X.f2
 ky : Kd.C Tr.kNd V A5 Y.f2.length Y.f2
 lx : X.f2.length ≤ ca2
 ly : Y.f2.length ≤ ca5
theorem WAt.below {V V' : World} {b g3 g6 : Nat} {A : Option Addr} {c : Nat} {l : List Tk} {X Y : Tr.Nd} {A2 : Option Addr} {ca2 : Nat} {A5 : Option Addr} {ca5 : Nat} (h : WAt V b g3 g6 A c l X Y A2 ca2 A5 ca5) (hb : Below V.heap.size V V') : WAt V' b g3 g6 A c l X Y A2 ca2 A5 ca5 :=
 ⟨(hb.block _ (blk_lt h.box)).trans h.box, (hb.block _ h.res.lt).trans h.res, (hb.block _ (blk_lt h.nx)).trans h.nx, (hb.block _ (blk_lt h.ny)).trans h.ny, Kd.C_below h.toks hb, Kd.C_below h.kx hb, Kd.C_below h.ky hb, h.lx, h.ly⟩
theorem results_cell2 {fn : Func} (hr : fn.results = #[.cell 2 4]) (tmps : Array Value) (w : World) (B : Nat) (b : Bool) (hp : tmps.getD 2 undef = .pointer (some ⟨B, 0, none⟩)) (hc : w.cell? ⟨B, 0, none⟩ = some (.bool b)) :
  (results fn tmps).run Try.prog w = .ok (.bool b) w := by
 have hp' : tmps[2]?.getD undef = .pointer (some ⟨B, 0, none⟩) := by simpa using hp
 simp [results, hr, hp', asAddr, loadVar, go_sem, hc]
theorem one_leave {fn : Func} (hr : fn.results = #[.cell 2 4]) {tmps : Array Value} {V : World} {D s2 : Nat} {b : Bool} {R : Ending → World → Prop} (ht : tmps.getD 2 undef = .pointer (some ⟨s2, 0, none⟩)) (h1 : V.heap[D]? = some (.deferred (some []))) (hb : Boxed V s2 4 (.bool b))
  (hR : R (.returned (.bool b)) (V.putObj D (.deferred none))) : bodyPostM Fence.wide 8 Try.prog fn R .ret { tmps := tmps, defers := [{ target := .collected D, args := #[] }] } V := by
 have hd : s2 ≠ D := by
  rintro rfl
  rw [show V.heap[s2]? = _ from hb] at h1
  cases h1
 have hb3 := hb.kept (grownBy_putObj' V D (.deferred none)) (by simpa using hd)
 refine ⟨by simp, .inl ⟨_, _, rfl, run_takeDeferred h1, ?_⟩⟩
 exact ⟨_, results_cell2 hr _ _ s2 b ht hb3.cell, hR⟩
theorem idx_nums {i n : Nat} (h : i < n) (hn : n ≤ 4194304) : (i : Int) < (n : Int) ∧ (0 : Int) ≤ (i : Int) ∧ wrap64 ((i : Int) + 1) = (i : Int) + 1 ∧ IntKind.i64.wrap ((i : Int) + 1) = (i : Int) + 1 ∧ ¬ ((n : Int) ≤ (i : Int)) ∧ wrap64 (5 * (i : Int)) = 5 * (i : Int) ∧ IntKind.i64.wrap (5 * (i : Int)) = 5 * (i : Int) := by
 simp only [IntKind.wrap_i64]
 unfold wrap64
 omega
theorem ah_nums {k i n : Nat} (h : k ≤ i) (hi : i ≤ n) (hn : n ≤ 4194304) : wrap64 ((k : Int) + 1) = (k : Int) + 1 ∧ IntKind.i64.wrap ((k : Int) + 1) = (k : Int) + 1 := by
 simp only [IntKind.wrap_i64]
 unfold wrap64
 omega
set_option maxRecDepth 100000 in
set_option maxHeartbeats 1000000 in
theorem whole_any (A : Option Addr) (c : Nat) (l : List Tk) (w : World) (hC : Kd.C kTk w A l.length l) (hc : l.length ≤ c) (hl : l.length ≤ 4194304) :
  Calls Try.prog 7 #[.slice A l.length c] w fun e w' => e = .returned (.bool true) ∧ Below w.heap.size w w' := by
 obtain ⟨W0, hW0⟩ : ∃ V, (w.alloc (.cells #[.slice A l.length c] 22)).alloc (.cells #[.bool false] 4) = V := ⟨_, rfl⟩
 have hb0 : Below w.heap.size w W0 := by rw [← hW0]; exact ((Below.refl _ w).alloc (Nat.le_refl _) _).alloc (by rw [World.size_alloc]; omega) _
 have hx0 : W0.heap[w.heap.size]? = some (.cells #[.slice A l.length c] 22 (0, 0)) := by rw [← hW0]; exact (Below.heap_alloc _ _ _ (by simp)).trans (World.alloc_heap_new w _)
 have hx1 : W0.heap[w.heap.size + 1]? = some (.cells #[.bool false] 4 (0, 0)) := by
  rw [← hW0]
  have := World.alloc_heap_new (w.alloc (.cells #[.slice A l.length c] 22)) (.cells #[.bool false] 4)
  rwa [World.size_alloc] at this
 have HW0 := Lib.hid hW0
 have HB0 := Lib.hid hb0
 have HX0 := Lib.hid hx0
 have HX1 := Lib.hid hx1
 have HAW := Lib.hid (awake_any W0)
 have HPR := Lib.hid (fun (w1 : World) (hb : Below w.heap.size w w1) => prog_any A c l w1 (Kd.C_below hC hb) hl)
 have HC := Lib.hid (fun (w1 : World) (hb : Below w.heap.size w w1) => Kd.C_below hC hb)
 have HL := Lib.hid hl
 have HP := Lib.hid (whole_plain l hl)
 have g0 : ¬ ((4194304 : Int) < (l.length : Int)) := by omega
 clear hC hl hc hW0 hb0 hx0 hx1
 refine (callsIn_wide (n := 8)).1 ?_
 refine callsIn_of_wp_marks Try.func7 rfl trivial ?_ rfl
 simp only [Try.ntmps7, List.size_toArray, List.length_cons, List.length_nil, Nat.reduceAdd, Nat.reduceSub, Array.replicate_succ, Array.replicate_zero, List.push_toArray, List.append_toArray, List.nil_append, List.cons_append]
 refine wpIn_wide.2 ?_
 go_upto_region 1 with (fail)
 rw [HW0.out]
 have y0 := cell_of_row _ _ 0 _ _ _ HX0.out
 go_upto_region 2 with (go_at_call 16; (with_reducible refine Calls.mono HAW.out ?_); rintro e w1 ⟨rfl, hb1⟩; have HB1 := Lib.hid (HB0.out.trans (hb1.mono HB0.out.size)); have HX01 := Lib.hid ((hb1.block _ (blk_lt HX0.out)).trans HX0.out); have HX11 := Lib.hid ((hb1.block _ (blk_lt HX1.out)).trans HX1.out); clear hb1 y0; have y0 := cell_of_row _ _ 0 _ _ _ HX01.out)
 go_upto_region 5 with (first
  | (go_at_call 17; (with_reducible refine Calls.mono (HPR.out _ HB1.out) ?_); rintro e w2 ⟨v2, rfl, ho2, hb2⟩; obtain ⟨A2, ca2, hv2⟩ := owns_slice ho2; subst hv2; have HO2 := Lib.hid ho2; have HB2 := Lib.hid (HB1.out.trans (hb2.mono HB1.out.size)); have HX02 := Lib.hid ((hb2.block _ (blk_lt HX01.out)).trans HX01.out); have HX12 := Lib.hid ((hb2.block _ (blk_lt HX11.out)).trans HX11.out); clear ho2 hb2 y0)
  | ((with_reducible refine gate_ (.store 51 (.tmp 4) (.tmp 29)) rfl ?_); refine Tr.wl_box rfl rfl _ _ _ rfl (ndAgg (prNd l) (.slice A2 (prNd l).f2.length ca2)) (Tr.ndCells (prNd l).f0 (prNd l).f1 (.slice A2 (prNd l).f2.length ca2)) rfl rfl rfl Tr.infoNd8 (Tr.ndCells_one _ _ rfl) (World.alloc_heap_new w2 _) rfl ?_; intro w3 h3 hu3; have HU3 := Lib.hid (box_up hu3); have X3 := Lib.hid h3; clear h3 hu3))
 obtain ⟨_, _, he2, hlc2, hk2⟩ := Tr.ownS_C HO2.out
 injection he2 with he2 _ hc2
 subst he2; subst hc2
 have HK3 := Lib.hid (And.intro hlc2 (Kd.C_below hk2 HU3.out))
 have HB3 := Lib.hid (HB2.out.trans (HU3.out.mono HB2.out.size))
 have HX03 := Lib.hid ((HU3.out.block _ (blk_lt HX02.out)).trans HX02.out)
 have HX13 := Lib.hid ((HU3.out.block _ (blk_lt HX12.out)).trans HX12.out)
 have HG3 : Hid (w.heap.size + 1 < w2.heap.size) := Lib.hid (blk_lt HX12.out)
 obtain ⟨g3, hg3⟩ : ∃ g, w2.heap.size = g := ⟨_, rfl⟩
 rw [hg3] at X3 HG3 ⊢
 clear HU3 HO2 hlc2 hk2 hg3 HX02 HX12 HX01 HX11 HX0 HX1 HB0 HB1 HB2 HW0 HAW HPR
 go_wp2
 have HI0 : Hid (WInv w3 l 0 w3 (.slice none 0 0)) := Lib.hid ⟨Below.refl _ _, nil_row _ _ _ _⟩
 go_loopw [7, 8, 9] (fun v7 v8 v9 wr => ∃ i : Nat, i ≤ l.length ∧ v9 = .int .i64 i ∧ v8 = .int .i64 (ahead l (progA l) i) ∧ Hid (WInv w3 l i wr v7)) (fun _ _ v9 _ => l.length - (intOf v9).toNat)
 case atStart => exact ⟨0, Nat.zero_le _, rfl, rfl, HI0⟩
 case round =>
  clear HI0
  obtain ⟨i, hi, rfl, rfl, H⟩ := hrel
  have y0 : wr.cell? ⟨w.heap.size, 0, none⟩ = some (.slice A l.length c) := cell_of_row _ _ 0 _ _ _ ((H.out.below.block _ (blk_lt HX03.out)).trans HX03.out)
  by_cases hlt : i < l.length
  ·obtain ⟨ad, rfl, hcells⟩ := tok_cells (HC.out wr (HB3.out.trans (H.out.below.mono HB3.out.size))) i hlt
   have hls : ahead l (progA l) (i + 1) = if isNote (rdT l i) then ahead l (progA l) i else if i < progA l then ahead l (progA l) i + 1 else ahead l (progA l) i := rfl
   have hpl : plainT l (i + 1) = if isNote (rdT l i) then plainT l i else plainT l i ++ [chg i (rdT l i)] := rfl
   have hll := (plainT_strip l i (by omega)).2.2
   have hal := ahead_le l (progA l) i
   obtain ⟨t, ht⟩ : ∃ t, rdT l i = t := ⟨_, rfl⟩
   have ht' : PSyntaxWhole.rd_T35 l i = t := ht
   rw [ht'] at hcells
   rw [ht] at hls hpl
   obtain ⟨c0, c1, c2, c3, c4, c5⟩ := hcells wr (Below.refl _ _)
   obtain ⟨q1, q2, q3, q4, q5, q6, q7⟩ := idx_nums hlt HL.out
   obtain ⟨a1, a2⟩ := ah_nums hal hi HL.out
   obtain ⟨k7, hk7⟩ : ∃ k7, (t.f0 == 7) = k7 := ⟨_, rfl⟩
   obtain ⟨k8, hk8⟩ : ∃ k8, (t.f0 == 8) = k8 := ⟨_, rfl⟩
   have hnt : isNote t = (k7 || k8) := by unfold isNote; rw [hk7, hk8]
   rw [hnt] at hls hpl
   have HLS := Lib.hid hls
   have HPE := Lib.hid hpl
   have HPL : Hid ((plainT l i).length ≤ l.length) := Lib.hid (by omega)
   obtain ⟨li, hli⟩ : ∃ li, ahead l (progA l) i = li := ⟨_, rfl⟩
   rw [hli] at a1 a2 ⊢
   have HLI := Lib.hid hli
   clear ht ht' hcells hnt hls hpl hll hal hli
   cases k7 with
   | true =>
    have HNX : Hid (WInv w3 l (i + 1) wr u7) := Lib.hid ⟨H.out.below, by rw [HPE.out]; exact H.out.row⟩
    go_wp2
    go_roundw
    case rel => exact ⟨i + 1, by omega, by go_num, by rw [HLS.out]; simp [HLI.out], HNX⟩
    case measure => simp [intOf] <;> omega
   | false =>
    cases k8 with
    | true =>
     have HNX : Hid (WInv w3 l (i + 1) wr u7) := Lib.hid ⟨H.out.below, by rw [HPE.out]; exact H.out.row⟩
     go_wp2
     go_roundw
     case rel => exact ⟨i + 1, by omega, by go_num, by rw [HLS.out]; simp [HLI.out], HNX⟩
     case measure => simp [intOf] <;> omega
    | false =>
     replace HPE : Hid (plainT l (i + 1) = plainT l i ++ [chg i t]) := Lib.hid HPE.out
     by_cases ha : i < progA l
     ·have ga : (i : Int) < (progA l : Int) := by omega
      have HAH : Hid (ahead l (progA l) (i + 1) = li + 1) := Lib.hid (by rw [HLS.out]; simp [HLI.out, ha])
      clear ha
      go_wp2_with (first | ((with_reducible refine gate_ (.store 35 (.tmp 10) (.tmp 55)) rfl ?_); refine Tr.wl_box rfl rfl _ _ _ rfl (.agg (tkCells t).toArray) (tkCells t) rfl rfl rfl infoTk6 (tkCells_one t) (World.alloc_heap_new wr _) rfl ?_; intro w4 h4 hu4; have K4 := Lib.hid h4; have HU4 := Lib.hid (box_up hu4); clear h4 hu4 c0 c1 c2 c3 c4 c5 y0) | ((with_reducible refine gate_ (.store 33 (.tmp 60) (.tmp 59)) rfl ?_); refine wl_cells rfl rfl _ _ _ rfl (g := wr.heap.size) (off := 2) (.agg #[.int .i64 (5 * (i : Int)), .int .i64 (i : Int), .int .i64 0]) [.int .i64 (5 * (i : Int)), .int .i64 (i : Int), .int .i64 0] rfl rfl rfl infoPl3 (ints_one _ _ _) K4.out (show 2 + 3 ≤ 6 by decide) ?_; intro w5 hw5; obtain ⟨V5, hV5, h5, hu5⟩ := set_part (seg := [.int .i64 (5 * (i : Int)), .int .i64 (i : Int), .int .i64 0]) (off := 2) K4.out (show 2 + 3 ≤ 6 by decide); rw [hV5] at hw5; subst hw5; have K5 : Hid (w5.heap[wr.heap.size]? = some (.cells #[.int .u8 t.f0, .string t.f1, .int .i64 (5 * (i : Int)), .int .i64 (i : Int), .int .i64 0, .int .i64 t.f3] 35 (0, 0))) := Lib.hid h5; have HU5 := Lib.hid (hu5.below HU4.out (Nat.le_refl _)); clear h5 hu5 hV5) | ((with_reducible refine gate_ (.store 3 (.tmp 61) (.const (.int .i64 3))) rfl ?_); refine wl_cells rfl rfl _ _ _ rfl (g := wr.heap.size) (off := 5) (.int .i64 3) [.int .i64 3] rfl rfl rfl infoInt1 (fun v hv => by rw [List.mem_singleton.1 hv]; rfl) K5.out (show 5 + 1 ≤ 6 by decide) ?_; intro w6 hw6; obtain ⟨V6, hV6, h6, hu6⟩ := set_part (seg := [.int .i64 3]) (off := 5) K5.out (show 5 + 1 ≤ 6 by decide); rw [hV6] at hw6; subst hw6; have K6 : Hid (w6.heap[wr.heap.size]? = some (.cells #[.int .u8 t.f0, .string t.f1, .int .i64 (5 * (i : Int)), .int .i64 (i : Int), .int .i64 0, .int .i64 3] 35 (0, 0))) := Lib.hid h6; have HU6 := Lib.hid (hu6.below HU5.out (Nat.le_refl _)); have HROW := Lib.hid (own_move H.out.row (fun q hq => HU6.out.block q (own_lt H.out.row q hq))); have HBEL := Lib.hid (H.out.below.trans (HU6.out.mono H.out.below.size)); have z0 := cell_of_row _ _ 0 _ _ _ K6.out; have z1 := cell_of_row _ _ 1 _ _ _ K6.out; have z2 := cell_of_row _ _ 2 _ _ _ K6.out; have z3 := cell_of_row _ _ 3 _ _ _ K6.out; have z4 := cell_of_row _ _ 4 _ _ _ K6.out; have z5 := cell_of_row _ _ 5 _ _ _ K6.out; clear h6 hu6 hV6) | ((with_reducible refine gate_dst (N := 65) rfl ?_); refine print_append_cells (w0 := w3) w3.heap.size rfl (.tmp 62) (.tmp 64) 22 35 _ 6 56 rfl Try.underlying22 infoTk rfl (by decide) (by decide) _ (plainT l i).length ((plainT l i).flatMap tkCells) (tkCells (chg i t)) rfl rfl rfl (tkCells_one _) HROW.out HBEL.out HBEL.out.size (by have := HPL.out; have := HL.out; omega) ?_; intro v7 w7 ho hb7 hg7 hat7; have HNX : Hid (WInv w3 l (i + 1) w7 v7) := Lib.hid ⟨hb7, by rw [HPE.out]; simpa using ho⟩; clear ho hb7 hg7 hat7 z0 z1 z2 z3 z4 z5))
      go_roundw
      case rel => exact ⟨i + 1, by omega, by go_num, by rw [HAH.out]; go_num, HNX⟩
      case measure => simp [intOf] <;> omega
     ·have ga : ¬ ((i : Int) < (progA l : Int)) := by omega
      have HAH : Hid (ahead l (progA l) (i + 1) = li) := Lib.hid (by rw [HLS.out]; simp [HLI.out, ha])
      clear ha
      go_wp2_with (first | ((with_reducible refine gate_ (.store 35 (.tmp 10) (.tmp 55)) rfl ?_); refine Tr.wl_box rfl rfl _ _ _ rfl (.agg (tkCells t).toArray) (tkCells t) rfl rfl rfl infoTk6 (tkCells_one t) (World.alloc_heap_new wr _) rfl ?_; intro w4 h4 hu4; have K4 := Lib.hid h4; have HU4 := Lib.hid (box_up hu4); clear h4 hu4 c0 c1 c2 c3 c4 c5 y0) | ((with_reducible refine gate_ (.store 33 (.tmp 60) (.tmp 59)) rfl ?_); refine wl_cells rfl rfl _ _ _ rfl (g := wr.heap.size) (off := 2) (.agg #[.int .i64 (5 * (i : Int)), .int .i64 (i : Int), .int .i64 0]) [.int .i64 (5 * (i : Int)), .int .i64 (i : Int), .int .i64 0] rfl rfl rfl infoPl3 (ints_one _ _ _) K4.out (show 2 + 3 ≤ 6 by decide) ?_; intro w5 hw5; obtain ⟨V5, hV5, h5, hu5⟩ := set_part (seg := [.int .i64 (5 * (i : Int)), .int .i64 (i : Int), .int .i64 0]) (off := 2) K4.out (show 2 + 3 ≤ 6 by decide); rw [hV5] at hw5; subst hw5; have K5 : Hid (w5.heap[wr.heap.size]? = some (.cells #[.int .u8 t.f0, .string t.f1, .int .i64 (5 * (i : Int)), .int .i64 (i : Int), .int .i64 0, .int .i64 t.f3] 35 (0, 0))) := Lib.hid h5; have HU5 := Lib.hid (hu5.below HU4.out (Nat.le_refl _)); clear h5 hu5 hV5) | ((with_reducible refine gate_ (.store 3 (.tmp 61) (.const (.int .i64 3))) rfl ?_); refine wl_cells rfl rfl _ _ _ rfl (g := wr.heap.size) (off := 5) (.int .i64 3) [.int .i64 3] rfl rfl rfl infoInt1 (fun v hv => by rw [List.mem_singleton.1 hv]; rfl) K5.out (show 5 + 1 ≤ 6 by decide) ?_; intro w6 hw6; obtain ⟨V6, hV6, h6, hu6⟩ := set_part (seg := [.int .i64 3]) (off := 5) K5.out (show 5 + 1 ≤ 6 by decide); rw [hV6] at hw6; subst hw6; have K6 : Hid (w6.heap[wr.heap.size]? = some (.cells #[.int .u8 t.f0, .string t.f1, .int .i64 (5 * (i : Int)), .int .i64 (i : Int), .int .i64 0, .int .i64 3] 35 (0, 0))) := Lib.hid h6; have HU6 := Lib.hid (hu6.below HU5.out (Nat.le_refl _)); have HROW := Lib.hid (own_move H.out.row (fun q hq => HU6.out.block q (own_lt H.out.row q hq))); have HBEL := Lib.hid (H.out.below.trans (HU6.out.mono H.out.below.size)); have z0 := cell_of_row _ _ 0 _ _ _ K6.out; have z1 := cell_of_row _ _ 1 _ _ _ K6.out; have z2 := cell_of_row _ _ 2 _ _ _ K6.out; have z3 := cell_of_row _ _ 3 _ _ _ K6.out; have z4 := cell_of_row _ _ 4 _ _ _ K6.out; have z5 := cell_of_row _ _ 5 _ _ _ K6.out; clear h6 hu6 hV6) | ((with_reducible refine gate_dst (N := 65) rfl ?_); refine print_append_cells (w0 := w3) w3.heap.size rfl (.tmp 62) (.tmp 64) 22 35 _ 6 56 rfl Try.underlying22 infoTk rfl (by decide) (by decide) _ (plainT l i).length ((plainT l i).flatMap tkCells) (tkCells (chg i t)) rfl rfl rfl (tkCells_one _) HROW.out HBEL.out HBEL.out.size (by have := HPL.out; have := HL.out; omega) ?_; intro v7 w7 ho hb7 hg7 hat7; have HNX : Hid (WInv w3 l (i + 1) w7 v7) := Lib.hid ⟨hb7, by rw [HPE.out]; simpa using ho⟩; clear ho hb7 hg7 hat7 z0 z1 z2 z3 z4 z5))
      go_roundw
      case rel => exact ⟨i + 1, by omega, by go_num, by rw [HAH.out], HNX⟩
      case measure => simp [intOf] <;> omega
  ·obtain rfl : i = l.length := by omega
   have q1 : ¬ ((l.length : Int) < (l.length : Int)) := by omega
   have hm := plainT_strip l l.length (Nat.le_refl _)
   obtain ⟨m, hme⟩ : ∃ m, plainT l l.length = m := ⟨_, rfl⟩
   have hrow := H.out.row
   have hbe := H.out.below
   have hp := HP.out
   rw [hme] at hrow hm hp
   obtain ⟨Am, cm, hu, hcm, hCm⟩ := toks_C hrow
   subst hu
   have HPM := Lib.hid (prog_any Am cm m wr hCm (by have := HL.out; omega))
   have HPP := Lib.hid hp
   have HB4 := Lib.hid (HB3.out.trans (hbe.mono HB3.out.size))
   have HX04 := Lib.hid ((hbe.block _ (blk_lt HX03.out)).trans HX03.out)
   have HX14 := Lib.hid ((hbe.block _ (blk_lt HX13.out)).trans HX13.out)
   have X4 := Lib.hid ((hbe.block _ (blk_lt X3.out)).trans X3.out)
   have HK4 := Lib.hid (And.intro HK3.out.1 (Kd.C_below HK3.out.2 hbe))
   clear hm hme hrow hbe hp hcm hCm HP H HX03 HX13 X3 HK3 HB3
   go_upto_region 18 with (first | (go_at_call 17; (with_reducible refine Calls.mono HPM.out ?_); rintro e w5 ⟨v5, rfl, ho5, hb5⟩; obtain ⟨A5, ca5, hv5, hlc5, hk5⟩ := Tr.ownS_C ho5; subst hv5; have HM5 := Lib.hid (And.intro hlc5 hk5); have HB5 := Lib.hid (HB4.out.trans (hb5.mono HB4.out.size)); have HX05 := Lib.hid ((hb5.block _ (blk_lt HX04.out)).trans HX04.out); have HX15 := Lib.hid ((hb5.block _ (blk_lt HX14.out)).trans HX14.out); have X5 := Lib.hid ((hb5.block _ (blk_lt X4.out)).trans X4.out); have HK5 := Lib.hid (And.intro HK4.out.1 (Kd.C_below HK4.out.2 hb5)); clear ho5 hb5 hlc5 hk5 HPM HX04 HX14 X4 HK4 y0) | ((with_reducible refine gate_ (.store 51 (.tmp 11) (.tmp 74)) rfl ?_); refine Tr.wl_box rfl rfl _ _ _ rfl (ndAgg (prNd m) (.slice A5 (prNd m).f2.length ca5)) (Tr.ndCells (prNd m).f0 (prNd m).f1 (.slice A5 (prNd m).f2.length ca5)) rfl rfl rfl Tr.infoNd8 (Tr.ndCells_one _ _ rfl) (World.alloc_heap_new w5 _) rfl ?_; intro w6 h6 hu6; have HU6 := Lib.hid (box_up hu6); have HB6 := Lib.hid (HB5.out.trans (HU6.out.mono HB5.out.size)); have X6 := Lib.hid h6; clear h6 hu6))
   have hwa : WAt w6 w.heap.size g3 w5.heap.size A c l (prNd l) (prNd m) A2 ca2 A5 ca5 := ⟨(HU6.out.block _ (blk_lt HX05.out)).trans HX05.out, (HU6.out.block _ (blk_lt HX15.out)).trans HX15.out, (HU6.out.block _ (blk_lt X5.out)).trans X5.out, X6.out, HC.out w6 HB6.out, Kd.C_below HK5.out.2 HU6.out, Kd.C_below HM5.out.2 HU6.out, HK5.out.1, HM5.out.1⟩
   have HWA := Lib.hid hwa
   obtain ⟨g6, hg6⟩ : ∃ g, w5.heap.size = g := ⟨_, rfl⟩
   have HG6 : Hid (g3 < g6) := Lib.hid (by rw [← hg6]; exact blk_lt X5.out)
   rw [hg6] at hwa HWA ⊢
   clear hg6 HX05 HX15 X5 X6 HU6 HK5 HM5
   have y0 := cell_of_row _ _ 0 _ _ _ hwa.box
   obtain ⟨n0, n1, n2, n3, n4, n5, n6, n7⟩ := Tr.cells8 hwa.nx
   have r0 := hwa.res.cell
   have r1 := hwa.res.frozen
   clear hwa
   have herr := HPP.out.err
   rw [herr]
   by_cases hE : progE l = 0
   ·have HE := Lib.hid hE
    have HQ := Lib.hid HPP.out
    rw [hE]
    clear hE herr
    go_upto_region 23 with (fail)
    obtain ⟨w7, hw7⟩ : ∃ V, w6.alloc (.cells #[.int .i64 0] 3) = V := ⟨_, rfl⟩
    have hb7 : Below w6.heap.size w6 w7 := by rw [← hw7]; exact (Below.refl _ _).alloc (Nat.le_refl _) _
    have hk7 : Boxed w7 w6.heap.size 3 (.int .i64 0) := by rw [← hw7]; exact Boxed.new _ _ _
    rw [hw7]
    have HK7 := Lib.hid hk7
    have HB67 := Lib.hid hb7
    have HTK := Lib.hid (callsIn_wide.1 (Tr.toks_in 7 (prNd l) A2 (prNd l).f2.length ca2 w7))
    clear n0 n1 n2 n3 n4 n5 n6 n7 y0 r0 r1 hw7 hk7
    obtain ⟨n0, n1, n2, n3, n4, n5, n6, n7⟩ := Tr.cells8 (HWA.out.below hb7).nx
    clear hb7
    go_wp2_with (go_at_call 18; (with_reducible refine Calls.mono HTK.out ?_); rintro e w8 ⟨rfl, hw8⟩; have HW8 := Lib.hid hw8; clear hw8 n0 n1 n2 n3 n4 n5 n6 n7)
    have hbn : w8.heap[w7.heap.size]? = some (.cells #[.int .u8 (prNd l).f0, .int .u8 (prNd l).f1.f0, .string (prNd l).f1.f1, .int .i64 (prNd l).f1.f2.f0, .int .i64 (prNd l).f1.f2.f1, .int .i64 (prNd l).f1.f2.f2, .int .i64 (prNd l).f1.f3, .slice A2 (prNd l).f2.length ca2] Tr.TN (0, 0)) := by rw [HW8.out]; exact World.alloc_heap_new _ _
    have hb78 : Below w7.heap.size w7 w8 := by rw [HW8.out]; exact (Below.refl _ _).alloc (Nat.le_refl _) _
    have hb68 : Below w6.heap.size w6 w8 := HB67.out.trans (hb78.mono HB67.out.size)
    have hk8 : Boxed w8 w6.heap.size 3 (.int .i64 0) := (hb78.block _ HK7.out.lt).trans HK7.out
    have hsq := Tr.toks_stops 7 (by decide) w6 (prNd l) A2 ca2 HWA.out.lx (HQ.out.size HE.out).1 HWA.out.kx w8 hb68 w7.heap.size hbn
    rw [HQ.out.toks HE.out] at hsq
    have HSQ := Lib.hid hsq
    have HB68 := Lib.hid hb68
    have HK8 := Lib.hid hk8
    clear hbn hb78 hb68 hk8 hsq HTK
    refine (wpIn_wide (n := 8)).1 ?_
    refine wpIn_rangeFunc_ownH rfl (by decide) (gf := 43) (lb := #[.pointer (some ⟨w7.heap.size, 0, none⟩)]) rfl trivial (enters_of Try.func43 (by kernel_rfl) rfl)
     HSQ.out (fun h h' => Tr.KpT.trans h h') (fun V l o o' hl h hc _ => Tr.KpT.putObj o' (Nat.le_trans HB68.out.size hl) h hc) (Below.refl _ _) (fun _ => rfl)
     (fun pre V => Tr.LI w6 w8 w8.heap.size w6.heap.size l pre V)
     (fun c pre V => c = .ret ∧ ¬ pre <+: l)
     (Tr.LI.own HB68.out.size (Nat.le_refl _)) (fun c => ownFrom_pure _ _)
     ⟨Tr.KpT.refl _ _, KeepsFrom.refl _ _, HK8.out, List.nil_prefix⟩
     (fun t a' V => ∃ Bx, w8.heap.size ≤ Bx ∧ V.heap[Bx]? = some (.cells #[.int .u8 t.f0, .string t.f1, .int .i64 t.f2.f0, .int .i64 t.f2.f1, .int .i64 t.f2.f2, .int .i64 t.f3] 35 (0, 0)) ∧ a' = { tmps := #[.slice A l.length c, .pointer (some ⟨w.heap.size, 0, none⟩), .pointer (some ⟨w.heap.size + 1, 0, none⟩), .bool true, .pointer (some ⟨g3, 0, none⟩), .int .i64 0, .int .i64 ↑(progA l), .slice Am m.length cm, .int .i64 ↑(ahead l (progA l) l.length), .int .i64 ↑l.length, u10, .pointer (some ⟨g6, 0, none⟩), .int .i64 0, .int .i64 ↑(progA m), .pointer (some ⟨w6.heap.size, 0, none⟩), .pointer (some ⟨Bx, 0, none⟩), undef, .bool true, .bool true, .bool false, .bool false, .slice A l.length c, .int .i64 ↑l.length, .bool (decide ((4194304 : Int) < (l.length : Int))), .bool (decide ((4194304 : Int) < (l.length : Int))), undef, .tuple #[ndAgg (prNd l) (.slice A2 (prNd l).f2.length ca2), .int .i64 0, .int .i64 ↑(progA l)], .slice A l.length c, .tuple #[ndAgg (prNd l) (.slice A2 (prNd l).f2.length ca2), .int .i64 0, .int .i64 ↑(progA l)], ndAgg (prNd l) (.slice A2 (prNd l).f2.length ca2), .int .i64 0, .int .i64 ↑(progA l), .int .i64 ↑l.length, .slice A l.length c, .int .i64 ↑l.length, .bool false, u36, u37, u38, u39, u40, u41, u42, u43, u44, u45, u46, u47, u48, u49, u50, u51, u52, u53, u54, u55, u56, u57, u58, u59, u60, u61, u62, u63, u64, u65, u66, u67, u68, u69, u70, .tuple #[ndAgg (prNd m) (.slice A5 (prNd m).f2.length ca5), .int .i64 0, .int .i64 ↑(progA m)], .slice Am m.length cm, .tuple #[ndAgg (prNd m) (.slice A5 (prNd m).f2.length ca5), .int .i64 0, .int .i64 ↑(progA m)], ndAgg (prNd m) (.slice A5 (prNd m).f2.length ca5), .int .i64 0, .int .i64 ↑(progA m), .int .i64 0, .int .i64 0, .bool false, .int .i64 0, .bool false, undef, undef, undef, undef, undef, undef, undef, undef, undef, undef, undef, undef, undef, undef, undef, undef, undef, undef, undef, undef, undef, undef, undef, .agg #[.int .u8 (prNd l).f0, .int .u8 (prNd l).f1.f0, .string (prNd l).f1.f1, .int .i64 (prNd l).f1.f2.f0, .int .i64 (prNd l).f1.f2.f1, .int .i64 (prNd l).f1.f2.f2, .int .i64 (prNd l).f1.f3, .slice A2 (prNd l).f2.length ca2], .func (.func 43) #[] #[.pointer (some ⟨w7.heap.size, 0, none⟩)], .agg #[.int .u8 t.f0, .string t.f1, .int .i64 t.f2.f0, .int .i64 t.f2.f1, .int .i64 t.f2.f2, .int .i64 t.f3], undef, undef, undef, undef, undef, undef, undef, undef, undef, undef, undef, undef, undef, undef, undef, undef, undef, undef, undef, undef, undef, undef, undef, undef, undef, undef, undef, undef, undef, undef, undef, undef, undef], defers := [] }) ?hAx ?assign ?body ?done ?stop
    case hAx =>
     rintro t a' _ X Y row ⟨Bx, h1, h2, h3⟩ hg hr
     refine ⟨Bx, h1, (hg.block Bx (Array.getElem?_eq_some_iff.1 h2).1 fun e => ?_).trans h2, h3⟩
     obtain ⟨_, o, ho, hc⟩ := hr Bx e.symm
     rw [h2] at ho; cases ho; cases hc
    case assign =>
     rintro lr pre t V K hI hK
     unfold Tr.tkV
     gi_wp2
     exact hK _ _ ((KeepsOthers.alloc _ _).from _) (Tr.KpT.alloc (Nat.le_trans HB68.out.size hI.keeps.size) _) (hI.alloc HB68.out.size _) ⟨V.heap.size, hI.keeps.size, World.alloc_heap_new _ _, rfl⟩
    case body =>
     rintro lr pre t a' V hl hloop hI ⟨Bx, hBx, hcx, rfl⟩ hlt
     obtain ⟨u, hu⟩ : ∃ u, l[pre.length]? = some u := ⟨_, List.getElem?_eq_getElem hlt⟩
     obtain ⟨Vd, hVd⟩ : ∃ U, V.drew = U := ⟨_, rfl⟩
     have hId : Tr.LI w6 w8 w8.heap.size w6.heap.size l pre Vd := by rw [← hVd]; exact hI.drew
     have hrel : KeepsFrom w8.heap.size V Vd ∧ Tr.KpT w6 V Vd := by rw [← hVd]; exact ⟨(KeepsOthers.drew V).from _, Tr.KpT.drew _ _⟩
     have hcd : Vd.heap[Bx]? = some (.cells #[.int .u8 t.f0, .string t.f1, .int .i64 t.f2.f0, .int .i64 t.f2.f1, .int .i64 t.f2.f2, .int .i64 t.f3] 35 (0, 0)) := by rw [← hVd]; exact hcx
     have hta := HWA.out.below (HB68.out.trans hId.kp.below)
     obtain ⟨ad, rfl, hrow⟩ := Tr.tok_at hta.toks pre.length u hlt hu
     have HS : Hid (Vd.cell? ⟨w6.heap.size, 0, none⟩ = some (.int .i64 (pre.length : Nat)) ∧ Vd.cell? ⟨w.heap.size, 0, none⟩ = some (.slice (some ad) l.length c) ∧ (Vd.cell? ⟨Bx, 0, none⟩ = some (.int .u8 t.f0) ∧ Vd.cell? ⟨Bx, 1, none⟩ = some (.string t.f1) ∧ Vd.cell? ⟨Bx, 2, none⟩ = some (.int .i64 t.f2.f0) ∧ Vd.cell? ⟨Bx, 3, none⟩ = some (.int .i64 t.f2.f1) ∧ Vd.cell? ⟨Bx, 4, none⟩ = some (.int .i64 t.f2.f2) ∧ Vd.cell? ⟨Bx, 5, none⟩ = some (.int .i64 t.f3)) ∧ (Vd.cell? (ad.add (pre.length * 6)) = some (.int .u8 u.f0) ∧ Vd.cell? ⟨(ad.add (pre.length * 6)).block, (ad.add (pre.length * 6)).off + 1, none⟩ = some (.string u.f1) ∧ Vd.cell? ⟨(ad.add (pre.length * 6)).block, (ad.add (pre.length * 6)).off + 2, none⟩ = some (.int .i64 u.f2.f0) ∧ Vd.cell? ⟨(ad.add (pre.length * 6)).block, (ad.add (pre.length * 6)).off + 3, none⟩ = some (.int .i64 u.f2.f1) ∧ Vd.cell? ⟨(ad.add (pre.length * 6)).block, (ad.add (pre.length * 6)).off + 4, none⟩ = some (.int .i64 u.f2.f2) ∧ Vd.cell? ⟨(ad.add (pre.length * 6)).block, (ad.add (pre.length * 6)).off + 5, none⟩ = some (.int .i64 u.f3))) := Lib.hid ⟨hId.box.cell, cell_of_row _ _ 0 _ _ _ hta.box, ⟨cell_of_row _ _ _ _ _ _ hcd, cell_of_row _ _ _ _ _ _ hcd, cell_of_row _ _ _ _ _ _ hcd, cell_of_row _ _ _ _ _ _ hcd, cell_of_row _ _ _ _ _ _ hcd, cell_of_row _ _ _ _ _ _ hcd⟩, hrow⟩
     have HU := Lib.hid hu
     have HIV := Lib.hid hId
     have HREL := Lib.hid hrel
     have HVd := Lib.hid hVd
     have hll := HL.out
     have d1 : decide ((l.length : Int) ≤ (pre.length : Int)) = false := decide_eq_false (by omega)
     have d2 : decide (l.length ≤ pre.length) = false := decide_eq_false (by omega)
     have g1 : (0 : Int) ≤ (pre.length : Int) := by omega
     have g2 : (pre.length : Int) < (l.length : Int) := by omega
     obtain ⟨x1, x2⟩ := ah_nums (k := pre.length) (Nat.le_of_lt hlt) (Nat.le_refl _) HL.out
     have cr := hta.res.cell
     have fr := hta.res.frozen
     have ck := hId.box.cell
     have fk := hId.box.frozen
     clear hI hcx hu hVd hId hrel hcd hta hrow hloop hl hll
     refine wpIn_block ?_
     repeat refine wpIn_seq ?_
     refine wp_region_RIn (fun w' => w'.cell? ⟨w6.heap.size, 0, none⟩ = some (.int .i64 (pre.length : Nat)) ∧ w'.cell? ⟨w.heap.size, 0, none⟩ = some (.slice (some ad) l.length c) ∧ (w'.cell? ⟨Bx, 0, none⟩ = some (.int .u8 t.f0) ∧ w'.cell? ⟨Bx, 1, none⟩ = some (.string t.f1) ∧ w'.cell? ⟨Bx, 2, none⟩ = some (.int .i64 t.f2.f0) ∧ w'.cell? ⟨Bx, 3, none⟩ = some (.int .i64 t.f2.f1) ∧ w'.cell? ⟨Bx, 4, none⟩ = some (.int .i64 t.f2.f2) ∧ w'.cell? ⟨Bx, 5, none⟩ = some (.int .i64 t.f3)) ∧ (w'.cell? (ad.add (pre.length * 6)) = some (.int .u8 u.f0) ∧ w'.cell? ⟨(ad.add (pre.length * 6)).block, (ad.add (pre.length * 6)).off + 1, none⟩ = some (.string u.f1) ∧ w'.cell? ⟨(ad.add (pre.length * 6)).block, (ad.add (pre.length * 6)).off + 2, none⟩ = some (.int .i64 u.f2.f0) ∧ w'.cell? ⟨(ad.add (pre.length * 6)).block, (ad.add (pre.length * 6)).off + 3, none⟩ = some (.int .i64 u.f2.f1) ∧ w'.cell? ⟨(ad.add (pre.length * 6)).block, (ad.add (pre.length * 6)).off + 4, none⟩ = some (.int .i64 u.f2.f2) ∧ w'.cell? ⟨(ad.add (pre.length * 6)).block, (ad.add (pre.length * 6)).off + 5, none⟩ = some (.int .i64 u.f3))) (fun _ => true) (by kernel_rfl) (by kernel_rfl) ?_
     rw [HVd.out]
     refine anyR_take (i := 0) (oi := { dst := some 108, op := .load 3 (.tmp 14), type := 3, pos := "law.go:154", after := #[], guard := none }) (v := ?_) rfl (by kernel_rfl) (fun _ _ _ h => h) (Or.inl ⟨by rfl, ?_⟩) HS.out ?_
     rotate_left
     ·intro x h; (try dsimp only at h); go_simp; try (with_reducible rfl)
     try simp only [Act.put, List.setIfInBounds_toArray, List.set]
     refine anyR_take (i := 1) (oi := { dst := some 109, op := .load 22 (.tmp 1), type := 22, pos := "law.go:154", after := #[], guard := none }) (v := ?_) rfl (by kernel_rfl) (fun _ _ _ h => h) (Or.inl ⟨by rfl, ?_⟩) HS.out ?_
     rotate_left
     ·intro x h; (try dsimp only at h); go_simp; try (with_reducible rfl)
     try simp only [Act.put, List.setIfInBounds_toArray, List.set]
     refine anyR_take (i := 2) (oi := { dst := some 110, op := .call { callee := .builtin .len, args := #[.tmp 109], argTypes := #[22] }, type := 3, pos := "law.go:154", after := #[{ on := 1, ground := .data }], guard := none }) (v := ?_) rfl (by kernel_rfl) (fun _ _ _ h => h) (Or.inl ⟨by rfl, ?_⟩) HS.out ?_
     rotate_left
     ·intro x h; (try dsimp only at h); go_simp; try (with_reducible rfl)
     try simp only [Act.put, List.setIfInBounds_toArray, List.set]
     refine anyR_take (i := 3) (oi := { dst := some 111, op := .binOp .geq 3 (.tmp 108) (.tmp 110) 3, type := 4, pos := "law.go:154", after := #[{ on := 0, ground := .data }, { on := 2, ground := .data }], guard := none }) (v := ?_) rfl (by kernel_rfl) (fun _ _ _ h => h) (Or.inl ⟨by rfl, ?_⟩) HS.out ?_
     rotate_left
     ·intro x h; (try dsimp only at h); go_simp; try (with_reducible rfl)
     try simp only [Act.put, List.setIfInBounds_toArray, List.set]
     refine anyR_take (i := 4) (oi := { dst := some 112, op := .move (.tmp 111), type := 4, pos := "law.go:154", after := #[{ on := 3, ground := .data }], guard := none }) (v := ?_) rfl (by kernel_rfl) (fun _ _ _ h => h) (Or.inl ⟨by rfl, ?_⟩) HS.out ?_
     rotate_left
     ·intro x h; (try dsimp only at h); go_simp; try (with_reducible rfl)
     try simp only [Act.put, List.setIfInBounds_toArray, List.set]
     refine anyR_take (i := 5) (oi := { dst := some 113, op := .load 35 (.tmp 15), type := 35, pos := "law.go:154", after := #[{ on := 4, ground := .guard }], guard := some (4, false) }) (v := ?_) rfl (by kernel_rfl) (fun _ _ _ h => h) (Or.inl ⟨by rfl, ?_⟩) HS.out ?_
     rotate_left
     ·intro x h; (try dsimp only at h); go_simp; try (with_reducible rfl)
     try simp only [Act.put, List.setIfInBounds_toArray, List.set]
     refine anyR_take (i := 6) (oi := { dst := some 114, op := .load 22 (.tmp 1), type := 22, pos := "law.go:154", after := #[{ on := 4, ground := .guard }], guard := some (4, false) }) (v := ?_) rfl (by kernel_rfl) (fun _ _ _ h => h) (Or.inl ⟨by rfl, ?_⟩) HS.out ?_
     rotate_left
     ·intro x h; (try dsimp only at h); go_simp; try (with_reducible rfl)
     try simp only [Act.put, List.setIfInBounds_toArray, List.set]
     refine anyR_take (i := 7) (oi := { dst := some 115, op := .load 3 (.tmp 14), type := 3, pos := "law.go:154", after := #[{ on := 4, ground := .guard }], guard := some (4, false) }) (v := ?_) rfl (by kernel_rfl) (fun _ _ _ h => h) (Or.inl ⟨by rfl, ?_⟩) HS.out ?_
     rotate_left
     ·intro x h; (try dsimp only at h); go_simp; try (with_reducible rfl)
     try simp only [Act.put, List.setIfInBounds_toArray, List.set]
     refine anyR_take (i := 8) (oi := { dst := some 116, op := .indexAddr 22 (.tmp 114) (.tmp 115), type := 0, pos := "law.go:154", after := #[{ on := 6, ground := .data }, { on := 7, ground := .data }, { on := 4, ground := .guard }], guard := some (4, false) }) (v := ?_) rfl (by kernel_rfl) (fun _ _ _ h => h) (Or.inl ⟨by rfl, ?_⟩) HS.out ?_
     rotate_left
     ·intro x h; (try dsimp only at h); go_simp; try (with_reducible rfl)
     try simp only [Act.put, List.setIfInBounds_toArray, List.set]
     refine anyR_take (i := 9) (oi := { dst := some 117, op := .load 35 (.tmp 116), type := 35, pos := "law.go:154", after := #[{ on := 8, ground := .data }, { on := 4, ground := .guard }], guard := some (4, false) }) (v := ?_) rfl (by kernel_rfl) (fun _ _ _ h => h) (Or.inl ⟨by rfl, ?_⟩) HS.out ?_
     rotate_left
     ·intro x h; (try dsimp only at h); go_simp; try (with_reducible rfl)
     try simp only [Act.put, List.setIfInBounds_toArray, List.set]
     by_cases htu : t = u
     ·have HTU := Lib.hid htu
      obtain ⟨b, hbi, hbq⟩ : ∃ b : Bool, (b = false ↔ t = u) ∧ b = false := ⟨false, iff_of_true rfl htu, rfl⟩
      have HBI := Lib.hid hbi
      have HBQ := Lib.hid hbq
      clear htu hbi hbq
      refine anyR_take (i := 10) (oi := { dst := some 118, op := .binOp .neq 35 (.tmp 113) (.tmp 117) 35, type := 4, pos := "law.go:154", after := #[{ on := 5, ground := .data }, { on := 9, ground := .data }, { on := 4, ground := .guard }], guard := some (4, false) }) (v := .bool b) rfl (by kernel_rfl) (fun _ _ _ h => h) (Or.inl ⟨by rfl, ?_⟩) HS.out ?_
      ·intro x h; (try dsimp only at h); go_simp; exact Tr.tk_neq HBI.out x
      try simp only [Act.put, List.setIfInBounds_toArray, List.set]
      have hbq := HBQ.out
      subst hbq
      refine anyR_take (i := 11) (oi := { dst := some 119, op := .pick (.tmp 112) (.const (.bool true)) (.tmp 118), type := 4, pos := "law.go:154", after := #[{ on := 4, ground := .data }, { on := 10, ground := .data }], guard := none }) (v := ?_) rfl (by kernel_rfl) (fun _ _ _ h => h) (Or.inl ⟨by rfl, ?_⟩) HS.out ?_
      rotate_left
      ·intro x h; (try dsimp only at h); go_simp; try (with_reducible rfl)
      try simp only [Act.put, List.setIfInBounds_toArray, List.set]
      refine anyR_done (by kernel_rfl) ?_ _
      simp only [Exit.then]
      have hnx : Tr.LI w6 w8 w8.heap.size w6.heap.size l (pre ++ [t]) (Vd.setCell ⟨w6.heap.size, 0, none⟩ (.int .i64 ((pre.length : Int) + 1))) := HIV.out.next (Nat.le_refl _) ((Tr.tok_pre HIV.out.pre HU.out).2 HTU.out)
      have hkk : KeepsFrom w8.heap.size V (Vd.setCell ⟨w6.heap.size, 0, none⟩ (.int .i64 ((pre.length : Int) + 1))) ∧ Tr.KpT w6 V (Vd.setCell ⟨w6.heap.size, 0, none⟩ (.int .i64 ((pre.length : Int) + 1))) := ⟨HREL.out.1.trans ((KeepsOthers.setCell _ _ _).from _), HREL.out.2.trans (Tr.KpT.setBox _ HIV.out.box (Nat.le_refl _))⟩
      have HNX9 := Lib.hid hnx
      have HKK := Lib.hid hkk
      clear hnx hkk
      gi_wp2
      exact ⟨HKK.out.1, HKK.out.2, HNX9.out⟩
     ·have HTU := Lib.hid htu
      obtain ⟨b, hbi, hbq⟩ : ∃ b : Bool, (b = false ↔ t = u) ∧ b = true := ⟨true, iff_of_false Bool.noConfusion htu, rfl⟩
      have HBI := Lib.hid hbi
      have HBQ := Lib.hid hbq
      clear htu hbi hbq
      refine anyR_take (i := 10) (oi := { dst := some 118, op := .binOp .neq 35 (.tmp 113) (.tmp 117) 35, type := 4, pos := "law.go:154", after := #[{ on := 5, ground := .data }, { on := 9, ground := .data }, { on := 4, ground := .guard }], guard := some (4, false) }) (v := .bool b) rfl (by kernel_rfl) (fun _ _ _ h => h) (Or.inl ⟨by rfl, ?_⟩) HS.out ?_
      ·intro x h; (try dsimp only at h); go_simp; exact Tr.tk_neq HBI.out x
      try simp only [Act.put, List.setIfInBounds_toArray, List.set]
      have hbq := HBQ.out
      subst hbq
      refine anyR_take (i := 11) (oi := { dst := some 119, op := .pick (.tmp 112) (.const (.bool true)) (.tmp 118), type := 4, pos := "law.go:154", after := #[{ on := 4, ground := .data }, { on := 10, ground := .data }], guard := none }) (v := ?_) rfl (by kernel_rfl) (fun _ _ _ h => h) (Or.inl ⟨by rfl, ?_⟩) HS.out ?_
      rotate_left
      ·intro x h; (try dsimp only at h); go_simp; try (with_reducible rfl)
      try simp only [Act.put, List.setIfInBounds_toArray, List.set]
      refine anyR_done (by kernel_rfl) ?_ _
      simp only [Exit.then]
      gi_wp2
      exact ⟨HREL.out.1.trans ((KeepsOthers.setCell _ _ _).from _), rfl, fun h => HTU.out ((Tr.tok_pre HIV.out.pre HU.out).1 h)⟩
    case done =>
     rintro D ys V hD hys hI hDef
     have hys2 := hys.symm
     subst hys2
     clear hys
     simp only [Exit.inBlock, Exit.then]
     have hwa := HWA.out.below (HB68.out.trans hI.kp.below)
     have hbw : Below w.heap.size w V := HB6.out.trans ((HB68.out.trans hI.kp.below).mono HB6.out.size)
     have hDlt := blk_lt hDef
     have hD8 : w.heap.size + 1 < D := by have := HWA.out.res.lt; have := HB68.out.size; omega
     obtain ⟨kf, hkf⟩ := full_f (Tr.nds (prNd l)) (prNd l) (Nat.le_refl _) (HQ.out.size HE.out).1 (HQ.out.full HE.out)
     have HFL := Lib.hid (PSyntaxWhole.colophonlaw14_full.calls kf (prNd l).f0 (prNd l).f1.f0 (prNd l).f1.f1 (prNd l).f1.f2.f0 (prNd l).f1.f2.f1 (prNd l).f1.f2.f2 (prNd l).f1.f3 A2 ca2 (prNd l).f2 true V hwa.kx hwa.lx hkf)
     obtain ⟨kd, hkd⟩ := Tr.depth_f (Tr.nds (prNd l)) (prNd l) (Nat.le_refl _) (HQ.out.size HE.out).1
     have HSM := Lib.hid (fun (V' : World) (h : WAt V' w.heap.size g3 g6 A c l (prNd l) (prNd m) A2 ca2 A5 ca5) => Tr.same_any (Tr.nds (prNd l)) V' (prNd l) (prNd m) A2 A5 ca2 ca5 (Nat.le_refl _) h.lx h.ly h.kx h.ky (HQ.out.size HE.out).1 (HQ.out.size HE.out).2)
     have HDP := Lib.hid (fun (V' : World) (h : WAt V' w.heap.size g3 g6 A c l (prNd l) (prNd m) A2 ca2 A5 ca5) => PSyntaxWhole.tree_Depth.calls kd (prNd l).f0 (prNd l).f1.f0 (prNd l).f1.f1 (prNd l).f1.f2.f0 (prNd l).f1.f2.f1 (prNd l).f1.f2.f2 (prNd l).f1.f3 A2 ca2 (prNd l).f2 (Tr.dep (prNd l)) V' h.kx h.lx hkd)
     have gd : ((Tr.dep (prNd l) : Nat) : Int) ≤ 1000 := by have := HQ.out.deep HE.out; omega
     have HSB := Lib.hid (HQ.out.same HE.out (Tr.nds (prNd l)))
     have HWV := Lib.hid hwa
     have HBV := Lib.hid hbw
     have HKB := Lib.hid hI.box
     have HDF := Lib.hid hDef
     have HD8 := Lib.hid hD8
     obtain ⟨n0, n1, n2, n3, n4, n5, n6, n7⟩ := Tr.cells8 hwa.nx
     clear hwa hbw hDlt hD8 hkf hkd hI hDef hD HSQ HK7 HK8
     go_wp2_with (first
      | (go_at_call 19; (with_reducible refine Calls.mono HFL.out ?_); rintro e w9 ⟨rfl, hb9⟩; have HB9 := Lib.hid hb9; have HW9 := Lib.hid (HWV.out.below hb9); clear hb9 n0 n1 n2 n3 n4 n5 n6 n7; obtain ⟨n0, n1, n2, n3, n4, n5, n6, n7⟩ := Tr.cells8 HW9.out.nx; obtain ⟨m0, m1, m2, m3, m4, m5, m6, m7⟩ := Tr.cells8 HW9.out.ny; have y0 := cell_of_row _ _ 0 _ _ _ HW9.out.box; have ck := Boxed.cell ((HB9.out.block _ HKB.out.lt).trans HKB.out))
      | (go_at_call 20; (with_reducible refine Calls.mono (HSM.out _ HW9.out) ?_); rintro e w10 ⟨rfl, hb10⟩; rw [HSB.out]; have HB10 := Lib.hid (HB9.out.trans (hb10.mono HB9.out.size)); have HW10 := Lib.hid (HW9.out.below hb10); clear hb10 n0 n1 n2 n3 n4 n5 n6 n7 m0 m1 m2 m3 m4 m5 m6 m7 y0 ck; obtain ⟨n0, n1, n2, n3, n4, n5, n6, n7⟩ := Tr.cells8 HW10.out.nx)
      | (go_at_call 21; (with_reducible refine Calls.mono (HDP.out _ HW10.out) ?_); rintro e w11 ⟨rfl, hb11⟩; have HB11 := Lib.hid (HB10.out.trans (hb11.mono HB10.out.size)); have HW11 := Lib.hid (HW10.out.below hb11); have r0 := HW11.out.res.cell; have r1 := HW11.out.res.frozen; clear hb11 n0 n1 n2 n3 n4 n5 n6 n7))
     have hD8 := HD8.out
     have hdl := blk_lt HDF.out
     have hd1 : (w11.setCell ⟨w.heap.size + 1, 0, none⟩ (.bool true)).heap[D]? = some (.deferred (some [])) := ((grownBy_setCell' w11 _ _).block D (Nat.lt_of_lt_of_le hdl HB11.out.size) (fun e => by cases e; omega)).trans ((HB11.out.block _ hdl).trans HDF.out)
     have hbf : Below w.heap.size w (w11.setCell ⟨w.heap.size + 1, 0, none⟩ (.bool true)) := (HBV.out.trans (HB11.out.mono HBV.out.size)).setCell (p := ⟨w.heap.size + 1, 0, none⟩) (show w.heap.size ≤ w.heap.size + 1 by omega) _
     have hrf := HW11.out.res.set (.bool true)
     have hz := hbf.size
     refine one_leave (b := true) rfl rfl hd1 hrf ⟨rfl, ?_⟩
     exact hbf.grown (grownBy_putObj' _ D _) hz (fun j e => by cases e; omega)
    case stop =>
     rintro D c' pre V hD hpre ⟨rfl, hbad⟩ hDef
     exact absurd hpre hbad
   ·have dE : (progE l != 0) = true := bne_iff_ne.2 hE
    have hpl := HPP.out.place hE
    have hend := HPP.out.end_ hE
    have hz := HPP.out.zero hE
    rw [hpl]
    rw [hz] at n0 n7
    have n0' : w6.cell? ⟨g3, 0, none⟩ = some (.int .u8 0) := n0
    have n7' : w6.cell? ⟨g3, 7, none⟩ = some (.slice A2 0 ca2) := n7
    clear n0 n7
    have deq : ((progE l == 121) == ((progA l : Int) == (l.length : Int))) = true := by
     by_cases h : progE l = 121
     ·rw [hend.1 h, h]; simp
     ·have h2 : ¬ ((progA l : Int) = (l.length : Int)) := fun h' => h (hend.2 (by omega))
      rw [beq_eq_false_iff_ne.2 h, beq_eq_false_iff_ne.2 h2]
      rfl
    have HDQ := Lib.hid deq
    clear hpl hend hz herr deq
    go_wp2
    rw [HDQ.out]
    exact ⟨_, results_cell2 rfl _ _ (w.heap.size + 1) true rfl (HWA.out.res.set (.bool true)).cell, rfl, HB6.out.setCell (p := ⟨w.heap.size + 1, 0, none⟩) (show w.heap.size ≤ w.heap.size + 1 by omega) _⟩
end Go.Proofs.Ytmjbpgnjgblnmaa
namespace Go.Proofs.Ytmjbpgnjgblnmaa
open Go.RowKit Go.Shelf Go.Proofs.YtmjbpgnjgblnmaaW.PrintWords Go.Proofs.YtmjbpgnjgblnmaaW.PrintLast Go.Proofs.YtmjbpgnjgblnmaaW.PrintMore
set_option maxRecDepth 100000 in
theorem whole_big (A : Option Addr) (n c : Nat) (w : World) (h : 4194304 < n) : Calls Try.prog 7 #[.slice A n c] w fun e w' => e = .returned (.bool true) ∧ Below w.heap.size w w' := by
 obtain ⟨W0, hW0⟩ : ∃ V, (w.alloc (.cells #[.slice A n c] 22)).alloc (.cells #[.bool false] 4) = V := ⟨_, rfl⟩
 have hb0 : Below w.heap.size w W0 := by rw [← hW0]; exact ((Below.refl _ w).alloc (Nat.le_refl _) _).alloc (by rw [World.size_alloc]; omega) _
 have hx0 : W0.heap[w.heap.size]? = some (.cells #[.slice A n c] 22 (0, 0)) := by rw [← hW0]; exact (Below.heap_alloc _ _ _ (by simp)).trans (World.alloc_heap_new w _)
 have hx1 : W0.heap[w.heap.size + 1]? = some (.cells #[.bool false] 4 (0, 0)) := by
  rw [← hW0]
  have := World.alloc_heap_new (w.alloc (.cells #[.slice A n c] 22)) (.cells #[.bool false] 4)
  rwa [World.size_alloc] at this
 have HW0 := Lib.hid hW0
 have HB0 := Lib.hid hb0
 have HX0 := Lib.hid hx0
 have HX1 := Lib.hid hx1
 have HAW := Lib.hid (awake_any W0)
 have g : (4194304 : Int) < (n : Int) := by omega
 clear h hW0 hb0 hx0 hx1
 refine (callsIn_wide (n := 8)).1 ?_
 refine callsIn_of_wp_marks Try.func7 rfl trivial ?_ rfl
 simp only [Try.ntmps7, List.size_toArray, List.length_cons, List.length_nil, Nat.reduceAdd, Nat.reduceSub, Array.replicate_succ, Array.replicate_zero, List.push_toArray, List.append_toArray, List.nil_append, List.cons_append]
 refine wpIn_wide.2 ?_
 go_upto_region 1 with (fail)
 rw [HW0.out]
 go_wp2_with (go_at_call 16; (with_reducible refine Calls.mono HAW.out ?_); rintro e w1 ⟨rfl, hb1⟩; have HB1 := Lib.hid (HB0.out.trans (hb1.mono HB0.out.size)); have HX11 : Hid (Boxed w1 (w.heap.size + 1) 4 (.bool false)) := Lib.hid ((hb1.block _ (blk_lt HX1.out)).trans HX1.out); have y0 := cell_of_row _ _ 0 _ _ _ ((hb1.block _ (blk_lt HX0.out)).trans HX0.out); have r0 := HX11.out.cell; have r1 := HX11.out.frozen; clear hb1)
 exact ⟨_, results_cell2 rfl _ _ (w.heap.size + 1) true rfl (HX11.out.set (.bool true)).cell, rfl, HB1.out.setCell (p := ⟨w.heap.size + 1, 0, none⟩) (show w.heap.size ≤ w.heap.size + 1 by omega) _⟩
theorem syntaxWhole_walk (A : Option Addr) (n c : Nat) (w : World) (hS : ∃ l : List Tk, l.length = n ∧ n ≤ c ∧ Kd.C kTk w A n l) : Calls Try.prog 7 #[.slice A n c] w fun e w' => e = .returned (.bool true) ∧ Below w.heap.size w w' := by
 obtain ⟨l, rfl, hc, hC⟩ := hS
 rcases Nat.lt_or_ge 4194304 l.length with h | h
 ·exact whole_big A l.length c w h
 ·exact whole_any A c l w hC hc h
end Go.Proofs.Ytmjbpgnjgblnmaa
namespace Go.Proofs.Ytmjbpgnjgblnmaa.syntaxWhole
open Go.ChangeShapes Go.WideShapes Go.ChangeAt Go.RowKit
open Go.ChangeMaps (open_string shut_string)
theorem own : ownKnob Try.prog.godebug = none := by kernel_rfl
set_option maxRecDepth 100000 in
theorem lifted (os : Os) (started : os.Started) (H : Type) (enc : TypeId × Value → H) :
  ReturnsInHanded {} Try.checked os 7 .any (Rows.syntaxWholeSpec.pre6 enc Try.prog Try.f7 Rows.syntaxWholeRow.domain false) (Rows.syntaxWholeSpec.post enc Try.prog Try.f7 false true false false) := by
 refine returnsInHanded_of_change_sized (C := Try.checked) own started (by kernel_rfl) Try.func7
  (ChangeSpec.witness6 (enc := enc) (C := Try.checked) false ⟨#[], #[.slice none 0 0], []⟩ 8 (by kernel_rfl) (by kernel_rfl) (by kernel_rfl) (by kernel_rfl)) ?_
 intro W base args ds gs before hval hW _ hsz _
 have hW' := hW
 obtain ⟨p, q, hA0, hV, rfl, hfz, hnd⟩ := hW
 have hA : DataW.TrodAll enc Try.prog W 0 (fun _ => true) true Try.f7.params.toList args.toList ds p := hA0
 rw [Try.params7] at hA hval
 obtain ⟨v0, vs0, d0, ds0, p0, q0, hargs, rfl, rfl, h0, r0⟩ := trodAll_cons hA
 obtain ⟨rfl, rfl, rfl⟩ := trodAll_nil r0
 obtain rfl : args = #[v0] := by cases args; simp_all
 obtain ⟨rfl, rfl⟩ := trodVars_none hV
 clear hA0
 obtain ⟨a0, len0, cap0, rfl⟩ := okWide_slice Try.underlying22 (hval 0 22 v0 rfl rfl)
 have h0k := h0
 have hlt0 : ∀ x ∈ p0, x.block < W.heap.size := fun x hx => hW'.lt x (by simp [hx])
 have hS0 := toks_arg h0
 simp only [List.append_nil] at hW'
 refine (syntaxWhole_walk a0 len0 cap0 W hS0).mono fun e W' ⟨he, hb⟩ => ?_
 subst he
 exact ⟨_, rfl, _, _, _, [], _, [], hW', trodAll_mk1 (shut_bool Try.underlying4 _), (trodAll_cons_mk (Below.trod laidOut0 (by kernel_rfl) (of_decide_eq_true (by kernel_rfl)) h0k hb hlt0) trodAll_mk0), rfl, hb.frame _, fun h => by cases h⟩
theorem over : Rows.syntaxWholeRow.holds Try.pinned (OpenSpec.ofChange Rows.syntaxWholeSpec) :=
 OpenClaim.holds_of_wide 7 Try.f7 rfl rfl rfl rfl rfl rfl rfl ⟨rfl, rfl, rfl, rfl, rfl⟩ rfl rfl rfl rfl rfl (by kernel_rfl) Try.func7 (by kernel_rfl)
  (of_decide_eq_true (by kernel_rfl)) (by unfold Func.isWrapper; first | (rw [if_pos (by decide +kernel)]; kernel_rfl) | (rw [if_neg (by decide +kernel)]; exact ⟨rfl, rfl⟩))
  (fun os started H enc _ => lifted os started H enc)
end Go.Proofs.Ytmjbpgnjgblnmaa.syntaxWhole
namespace Go.Proofs.Ytmjbpgnjgblnmaa
theorem syntaxWhole_holds : Rows.SyntaxWholeSaid := syntaxWhole.over
end Go.Proofs.Ytmjbpgnjgblnmaa
namespace Go.Proofs.Ytmjbpgnjgblnmaa
#print axioms syntaxWhole_holds
end Go.Proofs.Ytmjbpgnjgblnmaa
