/- SyntaxEvents: whatever the tokens, the law returns true; nothing that was there changes. -/
import Derived.Test.YtmjbpgnjgblnmaaGreatQk
import Derived.Test.YtmjbpgnjgblnmaaGreatQm
import Derived.Test.YtmjbpgnjgblnmaaGreatQl
import Derived.Test.YtmjbpgnjgblnmaaGreatQf
import Derived.Lib.Hide
import Derived.Laws.EntriesVeiled
import Derived.Deep.Slices
import Derived.ChangeArms
import Derived.OpenShut
import Derived.Test.YtmjbpgnjgblnmaaGreatRows
import Derived.WalkKit
import Derived.ProofKit
import Derived.ShutString
import Derived.ChangeOld
import Derived.Below
import Derived.SizedLaws
import Derived.Deep.DeepHandedRow
set_option linter.unusedVariables false
set_option linter.unusedSimpArgs false
namespace Go.Proofs.YtmjbpgnjgblnmaaGreat
def progE (l : List Tk) : Int := (allP newPar l).2.1
def progA (l : List Tk) : Nat := if (allP newPar l).2.1 = 0 then 0 else (allP newPar l).2.2
end Go.Proofs.YtmjbpgnjgblnmaaGreat
namespace Go.Proofs.YtmjbpgnjgblnmaaGreat
open Go.RowKit Go.Proofs.YtmjbpgnjgblnmaaGreatW.PrintWords Go.Proofs.YtmjbpgnjgblnmaaGreatW.PrintLast Go.Proofs.YtmjbpgnjgblnmaaGreatW.PrintMore
theorem reps_ev (V : World) (l : List Ev) : Reps (kEv.K V) 8 l (l.flatMap evCells) := by
 induction l with
 | nil => exact Reps.none _ _
 | cons x l ih =>
  have := Kd.reps_append ((Reps.none (kEv.K V) 8).snoc (PSyntaxEvents.k48_mk V x) rfl) ih
  rw [List.nil_append, List.nil_append, List.singleton_append] at this
  exact this
theorem evs_any {V : World} {base : Nat} {v : Value} {l : List Ev} (h : V.ownsRow base 48 8 v l.length (l.flatMap evCells)) : ∃ A c, v = .slice A l.length c ∧ l.length ≤ c ∧ Kd.C kEv V A l.length l := by
 obtain ⟨A, c, hv, hr⟩ := own_reads_row (size := 8) h (reps_ev V l) rfl
 obtain ⟨A2, c2, hv2, hc⟩ := row_slice h
 subst hv
 injection hv2 with h1 h2 h3
 subst h3
 exact ⟨A, _, rfl, hc, hr⟩
def prNd (l : List Tk) : Tr.Nd := if (allP newPar l).2.1 = 0 then (Tr.bld (allP newPar l).1).1 else Tr.noNd
abbrev ndAgg (x : Tr.Nd) (v : Value) : Value := .agg #[.int .u8 x.f0, .int .u8 x.f1.f0, .string x.f1.f1, .int .i64 x.f1.f2.f0, .int .i64 x.f1.f2.f1, .int .i64 x.f1.f2.f2, .int .i64 x.f1.f3, v]
def ProgPost (w : World) (l : List Tk) (e : Ending) (w' : World) : Prop :=
 ∃ v, e = .returned (.tuple #[ndAgg (prNd l) v, .int .i64 (progE l), .int .i64 (progA l)]) ∧ Tr.OwnS w' w.heap.size v (prNd l).f2 (fun _ => True) ∧ Below w.heap.size w w'
abbrev z8 : Array Value := #[.int .u8 0, .int .u8 0, .string ⟨#[]⟩, .int .i64 0, .int .i64 0, .int .i64 0, .int .i64 0, .slice none 0 0]
abbrev prW (w : World) : World := ((w.alloc (.cells z8 32)).alloc (.cells #[.int .i64 0] 33)).alloc (.cells #[.int .i64 0] 3)
theorem owns_slice {w : World} {base : Nat} {v : Value} {kids : List Tr.Nd} {F : Nat → Prop} (h : Tr.OwnS w base v kids F) : ∃ A c, v = .slice A kids.length c := by
 obtain ⟨cells, G, hr, -⟩ := h
 obtain ⟨A, c, hv, -⟩ := row_slice hr
 exact ⟨A, c, hv⟩
theorem setCells_all {g : Nat} {W : World} {cur : Array Value} {e : TypeId} {seg : List Value} (hh : W.heap[g]? = some (.cells cur e (0, 0))) (hl : cur.size = seg.length) : (W.setCells g 0 seg).heap[g]? = some (.cells seg.toArray e (0, 0)) ∧ Tr.Upd g W (W.setCells g 0 seg) := by
 obtain ⟨cur', h3, h4, h5⟩ := setCells_row seg 0 W cur hh (by omega)
 have hs := setCells_same g seg 0 W
 refine ⟨?_, ⟨fun k hk => setCells_far seg 0 k hk, hs.1, hs.2.1, hs.2.2.1, hs.2.2.2⟩⟩
 rw [h3]
 congr 2
 apply Array.toList_inj.1
 rw [h5, List.take_zero, List.nil_append, List.drop_of_length_le (by rw [Array.length_toList]; omega), List.append_nil]
theorem wrong_after {g0 g1 g2 : Nat} {w : World} {z0 : Array Value} {z1 z2 : Value} (h0 : w.heap[g0]? = some (.cells z0 32 (0, 0))) (hz : z0.size = 8) (h1 : w.heap[g1]? = some (.cells #[z1] 33 (0, 0))) (h2 : w.heap[g2]? = some (.cells #[z2] 3 (0, 0))) (hne : g0 ≠ g1 ∧ g0 ≠ g2 ∧ g1 ≠ g2) (er : Int) (j : Nat) {B : Nat} {w0 : World} (hb : Below B w0 w) (b0 : B ≤ g0) (b1 : B ≤ g1) (b2 : B ≤ g2) :
  ∃ V, (((w.alloc (.cells #[.int .i64 er, .int .i64 j] 52)).drew.setCells g0 0 Tr.zNd).setCells g1 0 [.int .i64 er]).setCells g2 0 [.int .i64 j] = V ∧ V.heap[g0]? = some (.cells Tr.zNd.toArray 32 (0, 0)) ∧ V.heap[g1]? = some (.cells #[.int .i64 er] 33 (0, 0)) ∧ V.heap[g2]? = some (.cells #[.int .i64 j] 3 (0, 0)) ∧ Below B w0 V := by
 obtain ⟨k0, k1, k2⟩ := wrong_rows h0 hz h1 h2 hne er j
 have hb1 : Below B w0 (w.alloc (.cells #[.int .i64 er, .int .i64 j] 52)).drew := (hb.trans ((Below.refl B w).alloc (by have := blk_lt h0; omega) _)).drew
 generalize (w.alloc (.cells #[.int .i64 er, .int .i64 j] 52)).drew = w1 at k0 k1 k2 hb1 ⊢
 obtain ⟨r0, u0⟩ := setCells_all (seg := Tr.zNd) k0 hz
 generalize w1.setCells g0 0 Tr.zNd = w2 at k1 k2 r0 u0 ⊢
 obtain ⟨r1, u1⟩ := setCells_all (seg := [.int .i64 er]) k1 rfl
 generalize w2.setCells g1 0 [.int .i64 er] = w3 at k2 r1 u1 ⊢
 obtain ⟨r2, u2⟩ := setCells_all (seg := [.int .i64 j]) k2 rfl
 exact ⟨_, rfl, (u2.far _ hne.2.1).trans ((u1.far _ hne.1).trans r0), (u2.far _ hne.2.2).trans r1, r2, u2.below (u1.below (u0.below hb1 b0) b1) b2⟩
theorem pr_start (A : Option Addr) (c : Nat) (l : List Tk) (w : World) (hC : Kd.C kTk w A l.length l) (hl : l.length ≤ 4194304) : ∃ V, (prW w).alloc (.cells #[.slice A l.length c, .int .i64 0, .int .i64 0, .slice none 0 0] 56) = V ∧ V.heap[w.heap.size]? = some (.cells z8 32 (0, 0)) ∧ V.heap[w.heap.size + 1]? = some (.cells #[.int .i64 0] 33 (0, 0)) ∧ V.heap[w.heap.size + 1 + 1]? = some (.cells #[.int .i64 0] 3 (0, 0)) ∧ SAt w A c l V (w.heap.size + 1 + 1 + 1) 0 0 [] (.slice none 0 0) ∧ V.heap.size = w.heap.size + 1 + 1 + 1 + 1 := by
 have s1 : (w.alloc (.cells z8 32)).heap.size = w.heap.size + 1 := World.size_alloc _ _
 have s2 : ((w.alloc (.cells z8 32)).alloc (.cells #[.int .i64 0] 33)).heap.size = w.heap.size + 1 + 1 := by rw [World.size_alloc, s1]
 have s3 : (prW w).heap.size = w.heap.size + 1 + 1 + 1 := by rw [World.size_alloc, s2]
 have n0 := World.alloc_heap_new w (.cells z8 32)
 have n1 := World.alloc_heap_new (w.alloc (.cells z8 32)) (.cells #[.int .i64 0] 33)
 have n2 := World.alloc_heap_new ((w.alloc (.cells z8 32)).alloc (.cells #[.int .i64 0] 33)) (.cells #[.int .i64 0] 3)
 have n3 := World.alloc_heap_new (prW w) (.cells #[.slice A l.length c, .int .i64 0, .int .i64 0, .slice none 0 0] 56)
 rw [s1] at n1
 rw [s2] at n2
 rw [s3] at n3
 have b1 := (Below.refl (w.heap.size + 1) (w.alloc (.cells z8 32))).alloc (by rw [s1]; exact Nat.le_refl _) (.cells #[.int .i64 0] 33)
 have b2 := (Below.refl (w.heap.size + 1 + 1) ((w.alloc (.cells z8 32)).alloc (.cells #[.int .i64 0] 33))).alloc (by rw [s2]; exact Nat.le_refl _) (.cells #[.int .i64 0] 3)
 have b3 := (Below.refl (w.heap.size + 1 + 1 + 1) (prW w)).alloc (by rw [s3]; exact Nat.le_refl _) (.cells #[.slice A l.length c, .int .i64 0, .int .i64 0, .slice none 0 0] 56)
 refine ⟨_, rfl, ?_, ?_, ?_, ⟨n3, ⟨rfl, .inl ⟨rfl, rfl⟩⟩, ?_, hC, by omega, hl, Nat.zero_le _⟩, ?_⟩
 ·exact (b3.block _ (by omega)).trans ((b2.block _ (by omega)).trans ((b1.block _ (by omega)).trans n0))
 ·exact (b3.block _ (by omega)).trans ((b2.block _ (by omega)).trans n1)
 ·exact (b3.block _ (by omega)).trans n2
 ·exact ((Below.refl w.heap.size w).alloc (Nat.le_refl _) _).trans (((b1.mono (by omega)).trans ((b2.mono (by omega)).trans (b3.mono (by omega)))))
 ·rw [World.size_alloc, s3]
set_option maxRecDepth 100000 in
set_option maxHeartbeats 1000000 in
theorem prog_any (A : Option Addr) (c : Nat) (l : List Tk) (w : World) (hC : Kd.C kTk w A l.length l) (hl : l.length ≤ 4194304) :
  Calls Tryz.prog 6 #[.slice A l.length c] w fun e w' => ProgPost w l e w' := by
 obtain ⟨V, hV, k0, k1, k2, hS, hsz⟩ := pr_start A c l w hC hl
 obtain ⟨n, r, hr, hq⟩ := prog_run l hl
 have hpr := g_program hS hr (prog_len hr)
 rw [hq] at hpr
 unfold progR at hpr
 have hme := SAt.below hS
 have HV := Lib.hid hV
 have H0 := Lib.hid k0
 have H1 := Lib.hid k1
 have H2 := Lib.hid k2
 have HS := Lib.hid hS
 have HSZ := Lib.hid hsz
 have HPR := Lib.hid hpr
 have HBV := Lib.hid hme
 have HL := Lib.hid hl
 clear hV k0 k1 k2 hS hsz hpr hme hr hq hC hl
 have hmf : ∀ (fn : Fn) (first cap : Array Value) (w : World), (Instr.makeFunc fn first cap).run Tryz.prog w = .ok (.func fn first cap) w := fun _ _ _ _ => rfl
 go_enter_defers Tryz.func6, Tryz.ntmps6
 go_upto_region 3 with (fail)
 rw [HV.out]
 by_cases he : (allP newPar l).2.1 = 0
 ·have HE := Lib.hid he
  have HPR2 := Lib.hid (by have h := HPR.out; rw [if_pos he] at h; exact h)
  clear HPR he
  go_wp2_with (first | (go_at_call 18; (with_reducible refine Calls.mono HPR2.out ?_); rintro e w2 ⟨rfl, ve2, hs2, hm2⟩; obtain ⟨A2, ca2, hv2, hc2, hkc⟩ := evs_any hs2.row; subst hv2; obtain ⟨-, -, -, q3⟩ := hs2.cell; have HBD := Lib.hid (Tr.build_any A2 _ ca2 _ w2 hkc rfl (prog_evs HL.out HE.out)); have Z0 := Lib.hid (mkeep hm2 HS.out H0.out (by decide) (by decide)); have Z1 := Lib.hid (mkeep hm2 HS.out H1.out (by decide) (by decide)); have Z2 := Lib.hid (mkeep hm2 HS.out H2.out (by decide) (by decide)); have HB2 := Lib.hid hs2.below; have HP2 := Lib.hid (blk_lt hs2.box); clear hs2 hm2 hkc hc2) | (go_at_call 19; (with_reducible refine Calls.mono HBD.out ?_); rintro e w3 ⟨v3, rfl, ho3, hb3⟩; obtain ⟨A3, ca3, hv3⟩ := owns_slice ho3; subst hv3; have HO3 := Lib.hid ho3; have HB3 := Lib.hid (HB2.out.trans (hb3.mono HB2.out.size)); have Y0 := Lib.hid ((hb3.block _ (blk_lt Z0.out)).trans Z0.out); have Y1 := Lib.hid ((hb3.block _ (blk_lt Z1.out)).trans Z1.out); have Y2 := Lib.hid ((hb3.block _ (blk_lt Z2.out)).trans Z2.out); clear ho3 hb3) | ((with_reducible refine gate_ (.store 32 (.tmp 2) (.tmp 18)) rfl ?_); refine Tr.wl_box rfl rfl _ _ _ rfl (ndAgg (Tr.bld (allP newPar l).1).1 (.slice A3 (Tr.bld (allP newPar l).1).1.f2.length ca3)) (Tr.ndCells (Tr.bld (allP newPar l).1).1.f0 (Tr.bld (allP newPar l).1).1.f1 (.slice A3 (Tr.bld (allP newPar l).1).1.f2.length ca3)) rfl rfl rfl Tr.infoNd8 (Tr.ndCells_one _ _ rfl) Y0.out rfl ?_; intro w4 h4 hu4; have X0 := Lib.hid h4; have U4 := Lib.hid hu4; obtain ⟨y0, y1, y2, y3, y4, y5, y6, y7⟩ := Tr.cells8 h4; clear h4 hu4) | ((with_reducible refine gate_ (.store 32 (.tmp 2) (.tmp 20)) rfl ?_); refine Tr.wl_box rfl rfl _ _ _ rfl (ndAgg (Tr.bld (allP newPar l).1).1 (.slice A3 (Tr.bld (allP newPar l).1).1.f2.length ca3)) (Tr.ndCells (Tr.bld (allP newPar l).1).1.f0 (Tr.bld (allP newPar l).1).1.f1 (.slice A3 (Tr.bld (allP newPar l).1).1.f2.length ca3)) rfl rfl rfl Tr.infoNd8 (Tr.ndCells_one _ _ rfl) X0.out rfl ?_; intro w5 h5 hu5; have V0 := Lib.hid h5; have U5 := Lib.hid hu5; have V1 := Lib.hid ((hu5.far _ (by omega)).trans ((U4.out.far _ (by omega)).trans Y1.out)); have V2 := Lib.hid ((hu5.far _ (by omega)).trans ((U4.out.far _ (by omega)).trans Y2.out)); clear h5 hu5) | ((with_reducible refine gate_ (.store 33 (.tmp 3) (.const (.int .i64 0))) rfl ?_); refine Tr.wl_box rfl rfl _ _ _ rfl (.int .i64 0) [.int .i64 0] rfl rfl rfl (by kernel_rfl) (fun v hv => by rw [List.mem_singleton.1 hv]; rfl) V1.out rfl ?_; intro w6 h6 hu6; have U6 := Lib.hid hu6; have T1 := Lib.hid h6; have T0 := Lib.hid ((hu6.far _ (by omega)).trans V0.out); have T2 := Lib.hid ((hu6.far _ (by omega)).trans V2.out); clear h6 hu6) | ((with_reducible refine gate_ (.store 3 (.tmp 4) (.const (.int .i64 0))) rfl ?_); refine Tr.wl_box rfl rfl _ _ _ rfl (.int .i64 0) [.int .i64 0] rfl rfl rfl (by kernel_rfl) (fun v hv => by rw [List.mem_singleton.1 hv]; rfl) T2.out rfl ?_; intro w7 h7 hu7; have U7 := Lib.hid hu7; have R2 := Lib.hid h7; have R0 := Lib.hid ((hu7.far _ (by omega)).trans T0.out); have R1 := Lib.hid ((hu7.far _ (by omega)).trans T1.out); clear h7 hu7))
  refine leaves_cons (f := 17) (args := #[.pointer (some ⟨w.heap.size, 0, none⟩), .pointer (some ⟨w.heap.size + 1, 0, none⟩), .pointer (some ⟨w.heap.size + 1 + 1, 0, none⟩)]) (by simp) (by simp [go_sem]) ?_
  refine (catch_idle _ _ _ _).mono ?_
  rintro e u' w8 ⟨rfl, rfl, rfl⟩
  have e1 : w8.cell? ⟨w.heap.size + 1, 0, none⟩ = some (.int .i64 0) := cell_of_row _ _ 0 _ _ _ R1.out
  have e2 : w8.cell? ⟨w.heap.size + 1 + 1, 0, none⟩ = some (.int .i64 0) := cell_of_row _ _ 0 _ _ _ R2.out
  obtain ⟨x0, x1, x2, x3, x4, x5, x6, x7⟩ := Tr.cells8 R0.out
  simp only [settle, Leaves]
  refine ⟨.tuple #[ndAgg (Tr.bld (allP newPar l).1).1 (.slice A3 (Tr.bld (allP newPar l).1).1.f2.length ca3), .int .i64 0, .int .i64 0], ?_, ?_⟩
  ·simp [results, Tryz.results6, go_sem, x0, x1, x2, x3, x4, x5, x6, x7, e1, e2]
  ·have h1 : prNd l = (Tr.bld (allP newPar l).1).1 := by unfold prNd; rw [if_pos HE.out]
   have h2 : progE l = 0 := HE.out
   have h3 : progA l = 0 := by unfold progA; rw [if_pos HE.out]
   refine ⟨.slice A3 (Tr.bld (allP newPar l).1).1.f2.length ca3, ?_, ?_, ?_⟩
   ·rw [h1, h2, h3]; rfl
   ·rw [h1]
    have hq := HP2.out
    exact Tr.ownS_lower (by omega) (Tr.ownS_upd (Tr.ownS_upd (Tr.ownS_upd (Tr.ownS_upd HO3.out U4.out (by omega)) U5.out (by omega)) U6.out (by omega)) U7.out (by omega))
   ·exact U7.out.below (U6.out.below (U5.out.below (U4.out.below HB3.out (Nat.le_refl _)) (Nat.le_refl _)) (by omega)) (by omega)
 ·have HE := Lib.hid he
  have HPR2 := Lib.hid (by have h := HPR.out; rw [if_neg he] at h; exact h)
  clear HPR he
  go_wp2_with (first | (go_at_call 18; (with_reducible refine Calls.mono HPR2.out ?_); rintro e w2 ⟨rfl, ve2, hm2⟩; have Z0 := Lib.hid (mkeep hm2 HS.out H0.out (by decide) (by decide)); have Z1 := Lib.hid (mkeep hm2 HS.out H1.out (by decide) (by decide)); have Z2 := Lib.hid (mkeep hm2 HS.out H2.out (by decide) (by decide)); have HB2 := Lib.hid (mout hm2 HS.out); clear hm2))
  refine leaves_cons (f := 17) (args := #[.pointer (some ⟨w.heap.size, 0, none⟩), .pointer (some ⟨w.heap.size + 1, 0, none⟩), .pointer (some ⟨w.heap.size + 1 + 1, 0, none⟩)]) (by simp) (by simp [go_sem]) ?_
  refine (catch_wrong _ _ _ _ _ _ _ _ _ Z0.out rfl Z1.out Z2.out (by omega)).mono ?_
  obtain ⟨V8, hV8, r0, r1, r2, hb8⟩ := wrong_after Z0.out rfl Z1.out Z2.out (by omega) (allP newPar l).2.1 (allP newPar l).2.2 HB2.out (Nat.le_refl _) (by omega) (by omega)
  rw [hV8]
  rintro e u' w8 ⟨rfl, rfl, rfl⟩
  clear hV8
  have e1 : w8.cell? ⟨w.heap.size + 1, 0, none⟩ = some (.int .i64 (allP newPar l).2.1) := cell_of_row _ _ 0 _ _ _ r1
  have e2 : w8.cell? ⟨w.heap.size + 1 + 1, 0, none⟩ = some (.int .i64 (allP newPar l).2.2) := cell_of_row _ _ 0 _ _ _ r2
  obtain ⟨x0, x1, x2, x3, x4, x5, x6, x7⟩ := Tr.cells8 r0
  simp only [settle, Leaves, List.dropWhile_nil]
  refine ⟨.tuple #[ndAgg Tr.noNd (.slice none 0 0), .int .i64 (allP newPar l).2.1, .int .i64 (allP newPar l).2.2], ?_, ?_⟩
  ·simp [results, Tryz.results6, go_sem, x0, x1, x2, x3, x4, x5, x6, x7, e1, e2, Tr.noNd, Tr.noTk]
  ·have h1 : prNd l = Tr.noNd := by unfold prNd; rw [if_neg HE.out]
   have h3 : progA l = (allP newPar l).2.2 := by unfold progA; rw [if_neg HE.out]
   refine ⟨.slice none 0 0, ?_, ?_, hb8⟩
   ·rw [h1, h3]; rfl
   ·rw [h1]; exact Tr.ownS_nil _ _ _
end Go.Proofs.YtmjbpgnjgblnmaaGreat
namespace Go.Proofs.YtmjbpgnjgblnmaaGreat
theorem nest_canon : ∀ (es : List Ev) (b : Bool) (o : List Int) (l : List Tk) (r : List Int × List Tk), nest b o l es = some r → es.map Tr.canon = es
 | [], b, o, l, r, h => rfl
 | e :: es, b, o, l, r, h => by
  obtain ⟨f0, f1, f2⟩ := e
  rw [nest_cons] at h
  rw [List.map_cons]
  by_cases h1 : f0 = 1
  ·subst h1
   rw [if_pos rfl] at h
   split at h
   ·rename_i hc
    rw [nest_canon es _ _ _ _ h]
    have h2 : f2 = noTk := hc.1
    subst h2
    rfl
   ·cases h
  ·rw [if_neg h1] at h
   by_cases h3 : f0 = 3
   ·subst h3
    rw [if_pos rfl] at h
    cases o with
    | nil => cases h
    | cons k o1 =>
     simp only at h
     split at h
     ·rename_i hc
      rw [nest_canon es _ _ _ _ h]
      have h2 : f2 = noTk := hc.2
      subst h2
      rfl
     ·cases h
   ·rw [if_neg h3] at h
    by_cases h2 : f0 = 2 ∨ f0 = 4
    ·rw [if_pos h2] at h
     cases l with
     | nil => cases h
     | cons t l1 =>
      simp only at h
      split at h
      ·rename_i hc
       rw [nest_canon es _ _ _ _ h]
       have h4 : f1 = 0 := hc.2.1
       subst h4
       unfold Tr.canon
       rw [if_pos h2]
      ·cases h
    ·rw [if_neg h2] at h; cases h
theorem prog_tells {l : List Tk} (he : progE l = 0) : Tr.tells (prNd l) = (allP newPar l).1 ∧ (prNd l).f0 ≠ 0 := by
 obtain ⟨op', h1, -⟩ := all_nest l newPar [] newPar_inv
 obtain ⟨X, hX, -⟩ := prog_tree l he
 have hp : prNd l = X := by
  unfold prNd
  unfold progE at he
  rw [if_pos he, Tr.bld_some hX]
 rw [hp]
 obtain ⟨h2, h3⟩ := Tr.bld_tells hX
 exact ⟨by rw [h2]; exact nest_canon _ _ _ _ _ h1, h3⟩
end Go.Proofs.YtmjbpgnjgblnmaaGreat
namespace Go.Proofs.YtmjbpgnjgblnmaaGreat
open Go.RowKit Go.Proofs.YtmjbpgnjgblnmaaGreatW.PrintWords Go.Proofs.YtmjbpgnjgblnmaaGreatW.PrintLast Go.Proofs.YtmjbpgnjgblnmaaGreatW.PrintMore
theorem akey_any (s : ByteArray) (w : World) : Calls Tryz.prog 14 #[.string s] w fun e w' => e = .returned (.agg #[.int .u8 2, .string s, .int .i64 0, .int .i64 0, .int .i64 0, .int .i64 0]) ∧ Below w.heap.size w w' := PSyntaxEvents.colophonlaw14_key.calls s 2 s 0 0 0 0 w rfl
theorem asign_any (s : ByteArray) (w : World) : Calls Tryz.prog 16 #[.string s] w fun e w' => e = .returned (.agg #[.int .u8 6, .string s, .int .i64 0, .int .i64 0, .int .i64 0, .int .i64 0]) ∧ Below w.heap.size w w' := PSyntaxEvents.colophonlaw14_sign.calls s 6 s 0 0 0 0 w rfl
theorem aname_any (s : ByteArray) (w : World) : Calls Tryz.prog 15 #[.string s] w fun e w' => e = .returned (.agg #[.int .u8 1, .string s, .int .i64 0, .int .i64 0, .int .i64 0, .int .i64 0]) ∧ Below w.heap.size w w' := PSyntaxEvents.colophonlaw14_name.calls s 1 s 0 0 0 0 w rfl
def awkL : List Tk := [⟨2, ⟨#[112, 114, 111, 103, 114, 97, 109]⟩, ⟨0, 0, 0⟩, 0⟩, ⟨1, ⟨#[112]⟩, ⟨0, 0, 0⟩, 0⟩, ⟨6, ⟨#[59]⟩, ⟨0, 0, 0⟩, 0⟩, ⟨2, ⟨#[98, 101, 103, 105, 110]⟩, ⟨0, 0, 0⟩, 0⟩, ⟨2, ⟨#[115, 107, 105, 112]⟩, ⟨0, 0, 0⟩, 0⟩, ⟨2, ⟨#[101, 110, 100]⟩, ⟨0, 0, 0⟩, 0⟩, ⟨6, ⟨#[46]⟩, ⟨0, 0, 0⟩, 0⟩]
def tkCells (t : Tk) : List Value := [.int .u8 t.f0, .string t.f1, .int .i64 t.f2.f0, .int .i64 t.f2.f1, .int .i64 t.f2.f2, .int .i64 t.f3]
theorem aw_1 : (progE awkL == 0 && (prNd awkL).f0 == 1 && (prNd awkL).f2.length == 5) = true := by kernel_rfl
theorem aw_2 : (progE (awkL.drop 1) == 120 && progA (awkL.drop 1) == 0) = true := by kernel_rfl
theorem aw_3 : (progE (awkL.take 3) == 121 && progA (awkL.take 3) == 3) = true := by kernel_rfl
theorem progA_ok {l : List Tk} (h : progE l = 0) : progA l = 0 := by unfold progA; unfold progE at h; rw [if_pos h]
theorem prNd_bad {l : List Tk} (h : progE l ≠ 0) : prNd l = Tr.noNd := by unfold prNd; unfold progE at h; rw [if_neg h]
theorem aw_C {V : World} {g : Nat} (h : V.heap[g]? = some (.cells (awkL.flatMap tkCells).toArray 28 (0, 0))) : Kd.C kTk V (some ⟨g, 0, none⟩) awkL.length awkL := by
 have hrow : V.ownsRow 0 28 6 (.slice (some ⟨g, 0, none⟩) 7 7) 7 (awkL.flatMap tkCells) := ⟨rfl, .inr ⟨g, 7, _, rfl, Nat.zero_le _, h, Nat.le_refl _, by decide, rfl, rfl⟩⟩
 have hreps : Reps (kTk.K V) 6 awkL (awkL.flatMap tkCells) := by
  have key : ∀ l : List Tk, Reps (kTk.K V) 6 l (l.flatMap tkCells) := fun l => by
   induction l with
   | nil => exact Reps.none _ _
   | cons x l ih =>
    have := Kd.reps_append ((Reps.none (kTk.K V) 6).snoc (PSyntaxEvents.k28_mk V x) rfl) ih
    rw [List.nil_append, List.nil_append, List.singleton_append] at this
    exact this
  exact key _
 obtain ⟨A, c1, hv, hr⟩ := own_reads_row (size := 6) hrow hreps rfl
 injection hv with h1 h2 h3
 subst h1
 exact hr
theorem prog_1 {V : World} {g : Nat} (h : Kd.C kTk V (some ⟨g, 0, none⟩) awkL.length awkL) : Calls Tryz.prog 6 #[.slice (some ⟨g, 0, none⟩) 7 7] V fun e w' => ∃ (x : Tr.Nd) (A : Option Addr) (c : Nat), e = .returned (.tuple #[ndAgg x (.slice A x.f2.length c), .int .i64 0, .int .i64 0]) ∧ x.f0 = 1 ∧ x.f2.length = 5 ∧ Below V.heap.size V w' := by
 refine (prog_any (some ⟨g, 0, none⟩) 7 awkL V h (by decide)).mono ?_
 rintro e w' ⟨v, rfl, ho, hb⟩
 obtain ⟨A, c, rfl⟩ := owns_slice ho
 have h1 := aw_1
 simp only [Bool.and_eq_true, beq_iff_eq] at h1
 refine ⟨prNd awkL, A, c, ?_, h1.1.2, h1.2, hb⟩
 rw [progA_ok h1.1.1, h1.1.1]
 rfl
theorem prog_2 {V : World} {g : Nat} (h : Kd.C kTk V (some ⟨g, 0, none⟩) awkL.length awkL) : Calls Tryz.prog 6 #[.slice (some ⟨g, 6, none⟩) 6 6] V fun e w' => ∃ (A : Option Addr) (c : Nat), e = .returned (.tuple #[ndAgg Tr.noNd (.slice A 0 c), .int .i64 120, .int .i64 0]) ∧ Below V.heap.size V w' := by
 have hd := Kd.C_drop (m := 1) (c := 7) h (by decide) (by decide)
 rw [if_neg (by decide)] at hd
 refine (prog_any (some ⟨g, 6, none⟩) 6 (awkL.drop 1) V hd (by decide)).mono ?_
 rintro e w' ⟨v, rfl, ho, hb⟩
 have h1 := aw_2
 simp only [Bool.and_eq_true, beq_iff_eq] at h1
 rw [prNd_bad (by rw [h1.1]; decide)] at ho ⊢
 obtain ⟨A, c, rfl⟩ := owns_slice ho
 refine ⟨A, c, ?_, hb⟩
 rw [h1.1, h1.2]
 rfl
theorem prog_3 {V : World} {g : Nat} (h : Kd.C kTk V (some ⟨g, 0, none⟩) awkL.length awkL) : Calls Tryz.prog 6 #[.slice (some ⟨g, 0, none⟩) 3 7] V fun e w' => ∃ (A : Option Addr) (c : Nat), e = .returned (.tuple #[ndAgg Tr.noNd (.slice A 0 c), .int .i64 121, .int .i64 3]) ∧ Below V.heap.size V w' := by
 have hd := Kd.C_take (m := 3) h (by decide)
 refine (prog_any (some ⟨g, 0, none⟩) 7 (awkL.take 3) V hd (by decide)).mono ?_
 rintro e w' ⟨v, rfl, ho, hb⟩
 have h1 := aw_3
 simp only [Bool.and_eq_true, beq_iff_eq] at h1
 rw [prNd_bad (by rw [h1.1]; decide)] at ho ⊢
 obtain ⟨A, c, rfl⟩ := owns_slice ho
 refine ⟨A, c, ?_, hb⟩
 rw [h1.1, h1.2]
 rfl
theorem box_up {w3 w4 : World} {o : Obj} (h : Tr.Upd w3.heap.size (w3.alloc o) w4) : Below w3.heap.size w3 w4 := h.below ((Below.refl w3.heap.size w3).alloc (Nat.le_refl _) o) (Nat.le_refl _)
set_option maxRecDepth 100000 in
set_option maxHeartbeats 1000000 in
theorem awake_any (w : World) : Calls Tryz.prog 5 #[] w fun e w' => e = .returned (.bool true) ∧ Below w.heap.size w w' := by
 have HB := Lib.hid (Below.refl w.heap.size w)
 go_enter Tryz.func5, Tryz.ntmps5
 go_upto_region 2 with (first
  | (go_at_call 14; (with_reducible refine Calls.mono (akey_any _ _) ?_); rintro e w9 ⟨rfl, hb⟩; replace HB := Lib.hid (HB.out.trans (hb.mono HB.out.size)); clear hb)
  | (go_at_call 16; (with_reducible refine Calls.mono (asign_any _ _) ?_); rintro e w9 ⟨rfl, hb⟩; replace HB := Lib.hid (HB.out.trans (hb.mono HB.out.size)); clear hb)
  | (go_at_call 15; (with_reducible refine Calls.mono (aname_any _ _) ?_); rintro e w9 ⟨rfl, hb⟩; replace HB := Lib.hid (HB.out.trans (hb.mono HB.out.size)); clear hb))
 obtain ⟨W2, hW2⟩ : ∃ V, w9.alloc (.cells (awkL.flatMap tkCells).toArray 28) = V := ⟨_, rfl⟩
 have hg2 : W2.heap[w9.heap.size]? = some (.cells (awkL.flatMap tkCells).toArray 28 (0, 0)) := by rw [← hW2]; exact World.alloc_heap_new _ _
 have hb2 : Below w9.heap.size w9 W2 := by rw [← hW2]; exact (Below.refl _ _).alloc (Nat.le_refl _) _
 replace hW2 : w9.alloc (.cells #[.int .u8 2, .string ⟨#[112, 114, 111, 103, 114, 97, 109]⟩, .int .i64 0, .int .i64 0, .int .i64 0, .int .i64 0, .int .u8 1, .string ⟨#[112]⟩, .int .i64 0, .int .i64 0, .int .i64 0, .int .i64 0, .int .u8 6, .string ⟨#[59]⟩, .int .i64 0, .int .i64 0, .int .i64 0, .int .i64 0, .int .u8 2, .string ⟨#[98, 101, 103, 105, 110]⟩, .int .i64 0, .int .i64 0, .int .i64 0, .int .i64 0, .int .u8 2, .string ⟨#[115, 107, 105, 112]⟩, .int .i64 0, .int .i64 0, .int .i64 0, .int .i64 0, .int .u8 2, .string ⟨#[101, 110, 100]⟩, .int .i64 0, .int .i64 0, .int .i64 0, .int .i64 0, .int .u8 6, .string ⟨#[46]⟩, .int .i64 0, .int .i64 0, .int .i64 0, .int .i64 0] 28) = W2 := hW2
 rw [hW2]
 clear hW2
 have HB2 := Lib.hid (HB.out.trans (hb2.mono HB.out.size))
 have HC2 := Lib.hid (aw_C hg2)
 clear hg2 hb2 HB
 obtain ⟨g, hg⟩ : ∃ g, w9.heap.size = g := ⟨_, rfl⟩
 rw [hg] at HC2 ⊢
 clear hg
 have HP1 := Lib.hid (prog_1 HC2.out)
 go_upto_region 3 with (first
  | (go_at_call 6; (with_reducible refine Calls.mono HP1.out ?_); rintro e w3 ⟨x1, A1, ca1, rfl, hx0, hx2, hb⟩; have HX0 := Lib.hid hx0; have HX2 := Lib.hid hx2; have HB3 := Lib.hid (HB2.out.trans (hb.mono HB2.out.size)); have HC3 := Lib.hid (Kd.C_below HC2.out hb); clear hb hx0 hx2)
  | ((with_reducible refine gate_ (.store 32 (.tmp 2) (.tmp 22)) rfl ?_); refine Tr.wl_box rfl rfl _ _ _ rfl (ndAgg x1 (.slice A1 x1.f2.length ca1)) (Tr.ndCells x1.f0 x1.f1 (.slice A1 x1.f2.length ca1)) rfl rfl rfl Tr.infoNd8 (Tr.ndCells_one _ _ rfl) (World.alloc_heap_new w3 _) rfl ?_; intro w4 h4 hu4; have X4 := Lib.hid h4; have U4 := Lib.hid hu4; clear h4 hu4))
 have hu4 := box_up U4.out
 have HB4 := Lib.hid (HB3.out.trans (hu4.mono HB3.out.size))
 have HC4 := Lib.hid (Kd.C_below HC3.out hu4)
 have HP2 := Lib.hid (prog_2 HC4.out)
 obtain ⟨g2, hg2⟩ : ∃ g2, w3.heap.size = g2 := ⟨_, rfl⟩
 rw [hg2] at X4 ⊢
 clear hu4 U4 HP1 HC2 HC3 HB2 HB3 hg2
 go_upto_region 4 with (first
  | (go_at_call 6; (with_reducible refine Calls.mono HP2.out ?_); rintro e w5 ⟨A2, ca2, rfl, hb⟩; have HB5 := Lib.hid (HB4.out.trans (hb.mono HB4.out.size)); have HC5 := Lib.hid (Kd.C_below HC4.out hb); have X5 := Lib.hid ((hb.block _ (blk_lt X4.out)).trans X4.out); clear hb)
  | ((with_reducible refine gate_ (.store 32 (.tmp 5) (.tmp 29)) rfl ?_); refine Tr.wl_box rfl rfl _ _ _ rfl (ndAgg Tr.noNd (.slice A2 0 ca2)) (Tr.ndCells 0 Tr.noTk (.slice A2 0 ca2)) rfl rfl rfl Tr.infoNd8 (Tr.ndCells_one _ _ rfl) (World.alloc_heap_new w5 _) rfl ?_; intro w6 h6 hu6; have X6 := Lib.hid h6; have U6 := Lib.hid hu6; clear h6 hu6))
 have hu6 := box_up U6.out
 have HB6 := Lib.hid (HB5.out.trans (hu6.mono HB5.out.size))
 have HC6 := Lib.hid (Kd.C_below HC5.out hu6)
 have Y6 := Lib.hid ((hu6.block _ (blk_lt X5.out)).trans X5.out)
 have HP3 := Lib.hid (prog_3 HC6.out)
 obtain ⟨g5, hg5⟩ : ∃ g5, w5.heap.size = g5 := ⟨_, rfl⟩
 rw [hg5] at X6 ⊢
 clear hu6 U6 HP2 HC4 HC5 HB4 HB5 hg5 X4 X5
 go_upto_region 5 with (first
  | (go_at_call 6; (with_reducible refine Calls.mono HP3.out ?_); rintro e w7 ⟨A3, ca3, rfl, hb⟩; have HB7 := Lib.hid (HB6.out.trans (hb.mono HB6.out.size)); have X7 := Lib.hid ((hb.block _ (blk_lt X6.out)).trans X6.out); have Y7 := Lib.hid ((hb.block _ (blk_lt Y6.out)).trans Y6.out); clear hb)
  | ((with_reducible refine gate_ (.store 32 (.tmp 8) (.tmp 36)) rfl ?_); refine Tr.wl_box rfl rfl _ _ _ rfl (ndAgg Tr.noNd (.slice A3 0 ca3)) (Tr.ndCells 0 Tr.noTk (.slice A3 0 ca3)) rfl rfl rfl Tr.infoNd8 (Tr.ndCells_one _ _ rfl) (World.alloc_heap_new w7 _) rfl ?_; intro w8 h8 hu8; have U8 := Lib.hid hu8; clear h8 hu8))
 have hu8 := box_up U8.out
 have HB8 := Lib.hid (HB7.out.trans (hu8.mono HB7.out.size))
 have k0 := (Tr.cells8 ((hu8.block _ (blk_lt Y7.out)).trans Y7.out)).1
 have k7 := (Tr.cells8 ((hu8.block _ (blk_lt Y7.out)).trans Y7.out)).2.2.2.2.2.2.2
 have m0 := (Tr.cells8 ((hu8.block _ (blk_lt X7.out)).trans X7.out)).1
 rw [HX0.out] at k0
 rw [HX2.out] at k7
 clear hu8 U8 HP3 HC6 HB6 HB7 X6 X7 Y6 Y7
 go_wp2
 go_ret
 exact ⟨rfl, HB8.out⟩
end Go.Proofs.YtmjbpgnjgblnmaaGreat
set_option maxRecDepth 100000
namespace Go.Proofs.YtmjbpgnjgblnmaaGreat.Tr
open Go.RowKit Go.Proofs.YtmjbpgnjgblnmaaGreatW.PrintWords Go.Proofs.YtmjbpgnjgblnmaaGreatW.PrintLast Go.Proofs.YtmjbpgnjgblnmaaGreatW.PrintMore
abbrev TE : TypeId := 48
theorem infoEv : (Tryz.prog.info? 48).map (fun i => (i.zero, i.size, i.bytes)) = some (some (.agg #[(.int .u8 0), (.int .u8 0), (.int .u8 0), (.string ⟨#[]⟩), (.int .i64 0), (.int .i64 0), (.int .i64 0), (.int .i64 0)]), 8, 64) := by kernel_rfl
def evCells (e : Ev) : List Value := [.int .u8 e.f0, .int .u8 e.f1, .int .u8 e.f2.f0, .string e.f2.f1, .int .i64 e.f2.f2.f0, .int .i64 e.f2.f2.f1, .int .i64 e.f2.f2.f2, .int .i64 e.f2.f3]
theorem ev_M (w : World) (base : Nat) (e : Ev) : kEv.M w base (fun _ => False) e (evCells e) := PSyntaxEvents.k48_mkM w base _ e
structure Out (w0 w : World) (xs : List Ev) : Prop where
 out : ∃ v, w.heap[w0.heap.size + 1]? = some (.cells #[v] 41 (0, 0)) ∧ Kd.R kEv TE w (w0.heap.size + 3) (fun _ => True) v xs
 walk : w.heap[w0.heap.size + 2]? = some (.cells #[.func (.func 31) #[] #[.pointer (some ⟨w0.heap.size + 1, 0, none⟩), .pointer (some ⟨w0.heap.size + 2, 0, none⟩)]] 37 (0, 0))
 below : Below w0.heap.size w0 w
 size : w0.heap.size + 3 ≤ w.heap.size
theorem Out.keep {w0 w w' : World} {xs : List Ev} (h : Out w0 w xs) (hb : Below w.heap.size w w') : Out w0 w' xs := by
 obtain ⟨v, h1, h2⟩ := h.out
 have hs := h.size
 exact ⟨⟨v, (hb.block _ (by omega)).trans h1, Kd.R_below h2 hb⟩, (hb.block _ (by omega)).trans h.walk, h.below.trans (hb.mono (by omega)), Nat.le_trans hs hb.size⟩
theorem Out.told {w0 w w4 w5 : World} {xs : List Ev} {e : Ev} {v v1 : Value} (h : Out w0 w xs) (hr : Kd.R kEv TE w (w0.heap.size + 3) (fun _ => True) v xs) (h4 : Kd.R kEv TE w4 (w0.heap.size + 3) (fun _ => True) v1 (xs ++ [e])) (hg : w.grownBy w4 v.ownBlock) (h5 : w5.heap[w0.heap.size + 1]? = some (.cells [v1].toArray 41 (0, 0))) (hu : Upd (w0.heap.size + 1) w4 w5) : Out w0 w5 (xs ++ [e]) := by
 have hs := h.size
 have hvb : ∀ k, v.ownBlock = some k → w0.heap.size + 3 ≤ k := Kd.R_base hr
 have e2 := (hg.block (w0.heap.size + 2) (by omega) (fun he => by have := hvb _ he.symm; omega)).trans h.walk
 refine ⟨⟨v1, h5, ?_⟩, (hu.far _ (by omega)).trans e2, ?_, by rw [hu.size]; exact Nat.le_trans hs hg.size⟩
 ·exact Kd.R_mono (Kd.R_step (ok := fun k => True ∧ w0.heap.size + 3 ≤ k) (Kd.R_mono (Kd.R_bound h4) (fun k hk => ⟨trivial, hk.2.1⟩)) (fun k hk _ => hu.far k (by have := hk.2; omega))) (fun _ _ => trivial)
 ·exact hu.below (h.below.grown hg (by omega) (fun k hk => by have := hvb k hk; omega)) (by omega)
theorem told_far {w0 w w4 w5 : World} {xs : List Ev} {v : Value} {b : Nat} {C : Array Value} (hr : Kd.R kEv TE w (w0.heap.size + 3) (fun _ => True) v xs) (hg : w.grownBy w4 v.ownBlock) (hu : Upd (w0.heap.size + 1) w4 w5) (hb : w.heap[b]? = some (.cells C TN (0, 0))) (hne : b ≠ w0.heap.size + 1) : w5.heap[b]? = some (.cells C TN (0, 0)) := by
 refine (hu.far b hne).trans ((hg.block b (blk_lt hb) fun he => ?_).trans hb)
 obtain ⟨c2, h2⟩ := Kd.R_typed hr b he.symm
 rw [hb] at h2
 injection h2 with h2
 injection h2 with _ h2
 exact absurd h2 (by decide)
def Keeps (w w' : World) : Prop := ∀ (b : Nat) (C : Array Value), w.heap[b]? = some (.cells C TN (0, 0)) → w'.heap[b]? = some (.cells C TN (0, 0))
theorem Keeps.of_below {w w' : World} (h : Below w.heap.size w w') : Keeps w w' := fun b C hb => (h.block b (blk_lt hb)).trans hb
theorem Keeps.trans {w w' w2 : World} (h : Keeps w w') (h2 : Keeps w' w2) : Keeps w w2 := fun b C hb => h2 b C (h b C hb)
theorem Out.ne {w0 w : World} {xs : List Ev} (h : Out w0 w xs) {b : Nat} {C : Array Value} (hb : w.heap[b]? = some (.cells C TN (0, 0))) : b ≠ w0.heap.size + 1 := by
 rintro rfl
 obtain ⟨v, hv, _⟩ := h.out
 rw [hb] at hv
 injection hv with hv
 injection hv with _ hv
 exact absurd hv (by decide)
theorem Keeps.told {w0 w w4 w5 : World} {xs : List Ev} {v : Value} (h : Out w0 w xs) (hr : Kd.R kEv TE w (w0.heap.size + 3) (fun _ => True) v xs) (hg : w.grownBy w4 v.ownBlock) (hu : Upd (w0.heap.size + 1) w4 w5) : Keeps w w5 := fun b C hb => told_far hr hg hu hb (h.ne hb)
theorem infoEvS : (Tryz.prog.info? 41).map (·.size) = some 1 := by kernel_rfl
end Go.Proofs.YtmjbpgnjgblnmaaGreat.Tr
set_option maxRecDepth 100000
namespace Go.Proofs.YtmjbpgnjgblnmaaGreat.Tr
open Go.RowKit Go.Proofs.YtmjbpgnjgblnmaaGreatW.PrintWords Go.Proofs.YtmjbpgnjgblnmaaGreatW.PrintLast Go.Proofs.YtmjbpgnjgblnmaaGreatW.PrintMore
def OutPost (w0 w : World) (xs : List Ev) (e : Ending) (w' : World) : Prop := (∃ v, e = .returned v) ∧ Out w0 w' xs ∧ Keeps w w'
set_option maxRecDepth 100000 in
set_option maxHeartbeats 4000000 in
theorem walk_tok_false (w0 w : World) (t : Tk) (v7 : Value) (xs : List Ev) (hb : isNote t = false) (h : Out w0 w xs) (hl : xs.length ≤ 549755813892) :
  Calls Tryz.prog 31 #[.agg #[.int .u8 0, .int .u8 t.f0, .string t.f1, .int .i64 t.f2.f0, .int .i64 t.f2.f1, .int .i64 t.f2.f2, .int .i64 t.f3, v7], .pointer (some ⟨w0.heap.size + 1, 0, none⟩), .pointer (some ⟨w0.heap.size + 2, 0, none⟩)] w fun e w' => OutPost w0 w (xs ++ [evTok t]) e w' := by
 obtain ⟨k0, tx, ⟨p0, p1, p2⟩, fd⟩ := t
 dsimp only
 have CC := Lib.hid (comment_any ⟨k0, tx, ⟨p0, p1, p2⟩, fd⟩)
 have HB := Lib.hid hb
 have H := Lib.hid h
 have HF1 : Hid ((xs.length + 1) * 64 ≤ 140737488355328) := Lib.hid (by omega)
 have hby : ∀ w1, Below (w.heap.size + 1) (w.alloc (.cells #[.int .u8 0, .int .u8 k0, .string tx, .int .i64 p0, .int .i64 p1, .int .i64 p2, .int .i64 fd, v7] TN)) w1 → _ := fun w1 h => box8 h
 obtain ⟨W1, hW1⟩ : ∃ W1, w.alloc (.cells #[.int .u8 0, .int .u8 k0, .string tx, .int .i64 p0, .int .i64 p1, .int .i64 p2, .int .i64 fd, v7] TN) = W1 := ⟨_, rfl⟩
 have hs1 : W1.heap.size = w.heap.size + 1 := by rw [← hW1, World.size_alloc]
 have hb1 : Below w.heap.size w W1 := by rw [← hW1]; exact (Below.refl w.heap.size w).alloc (Nat.le_refl _) _
 rw [hW1] at hby
 have HBY := Lib.hid hby
 have HW1 := Lib.hid hW1
 have HB1 := Lib.hid hb1
 have HS1 := Lib.hid hs1
 clear hb h hby hW1 hb1 hs1
 go_enter Tryz.func31, Tryz.ntmps31
 go_upto_region 2 with (fail)
 rw [HW1.out]
 obtain ⟨y0, y1, y2, y3, y4, y5, y6, y7⟩ := HBY.out W1 (Below.refl _ _)
 go_wp2_with (first
  | (go_at_call 32; (with_reducible refine (CC.out _).mono ?_); rintro e w2 ⟨rfl, hb⟩; have HK2 := Lib.hid (H.out.keep (HB1.out.trans (hb.mono HB1.out.size))); have HP2 := Lib.hid (Keeps.of_below (HB1.out.trans (hb.mono HB1.out.size))); (obtain ⟨z0, z1, z2, z3, z4, z5, z6, z7⟩ := HBY.out w2 (hb.mono (Nat.le_of_eq HS1.out.symm))); clear hb; rw [HB.out]; (obtain ⟨v1, hv1, hr1⟩ := (HK2.out).out); (obtain ⟨A1, c1, rfl⟩ := Kd.R_slice hr1); have cv1 := blk_cell hv1 0; have fv1 := blk_frozen hv1 0; simp only [List.getElem?_toArray, List.getElem?_cons_zero] at cv1; have HR1 := Lib.hid hr1; have HV1 := Lib.hid hv1; clear hr1 hv1)
  | ((with_reducible refine gate_dst (N := 11) rfl ?_); refine Kd.R_append kEv (w0 := w2) (w0.heap.size + 3) rfl (.tmp 6) (.tmp 10) 41 48 _ 64 rfl Tryz.underlying41 infoEv rfl (by decide) (by decide) (.slice A1 (xs).length c1) (xs) (⟨2, 0, ⟨k0, tx, ⟨p0, p1, p2⟩, fd⟩⟩) (evCells (⟨2, 0, ⟨k0, tx, ⟨p0, p1, p2⟩, fd⟩⟩)) (fun _ => True) (fun _ => False) rfl rfl (ev_M _ _ _) (fun _ h => h.elim) (fun _ _ => trivial) HR1.out (Below.refl _ _) (HK2.out).size HF1.out ?_; intro v3 w3 ho _ hg _; (obtain ⟨A3, c3, rfl⟩ := Kd.R_slice ho); have HG3 := Lib.hid hg; have HO3 := Lib.hid ho; have hm3 := Lib.hid ((hg.block (w0.heap.size + 1) (by have := (HK2.out).size; omega) (fun he => by have := Kd.R_base HR1.out _ he.symm; omega)).trans HV1.out); have cm3 := blk_cell hm3.out 0; have fm3 := blk_frozen hm3.out 0; simp only [List.getElem?_toArray, List.getElem?_cons_zero] at cm3; clear ho hg)
  | ((with_reducible refine gate_ (.store 41 (.tmp 1) (.tmp 11)) rfl ?_); refine wl_box rfl rfl _ _ _ rfl _ [.slice A3 ((xs) ++ [(⟨2, 0, ⟨k0, tx, ⟨p0, p1, p2⟩, fd⟩⟩ : Ev)]).length c3] rfl rfl rfl infoEvS (fun u hu => by rw [List.mem_singleton.1 hu]; rfl) hm3.out rfl ?_; intro w5 h5 hu; have HKw5 := Lib.hid (Out.told HK2.out HR1.out HO3.out HG3.out h5 hu); have HPw5 := Lib.hid (Keeps.told HK2.out HR1.out HG3.out hu); clear h5 hu))
 refine bodyPost_end (results_none rfl _ _ _) rfl ?_
 refine ⟨⟨_, rfl⟩, ?_, HP2.out.trans HPw5.out⟩
 have ht := HKw5.out
 have he : evTok ⟨k0, tx, ⟨p0, p1, p2⟩, fd⟩ = ⟨2, 0, ⟨k0, tx, ⟨p0, p1, p2⟩, fd⟩⟩ := by unfold evTok; rw [HB.out]; rfl
 rw [he]
 exact ht
set_option maxRecDepth 100000 in
set_option maxHeartbeats 4000000 in
theorem walk_tok_true (w0 w : World) (t : Tk) (v7 : Value) (xs : List Ev) (hb : isNote t = true) (h : Out w0 w xs) (hl : xs.length ≤ 549755813892) :
  Calls Tryz.prog 31 #[.agg #[.int .u8 0, .int .u8 t.f0, .string t.f1, .int .i64 t.f2.f0, .int .i64 t.f2.f1, .int .i64 t.f2.f2, .int .i64 t.f3, v7], .pointer (some ⟨w0.heap.size + 1, 0, none⟩), .pointer (some ⟨w0.heap.size + 2, 0, none⟩)] w fun e w' => OutPost w0 w (xs ++ [evTok t]) e w' := by
 obtain ⟨k0, tx, ⟨p0, p1, p2⟩, fd⟩ := t
 dsimp only
 have CC := Lib.hid (comment_any ⟨k0, tx, ⟨p0, p1, p2⟩, fd⟩)
 have HB := Lib.hid hb
 have H := Lib.hid h
 have HF1 : Hid ((xs.length + 1) * 64 ≤ 140737488355328) := Lib.hid (by omega)
 have hby : ∀ w1, Below (w.heap.size + 1) (w.alloc (.cells #[.int .u8 0, .int .u8 k0, .string tx, .int .i64 p0, .int .i64 p1, .int .i64 p2, .int .i64 fd, v7] TN)) w1 → _ := fun w1 h => box8 h
 obtain ⟨W1, hW1⟩ : ∃ W1, w.alloc (.cells #[.int .u8 0, .int .u8 k0, .string tx, .int .i64 p0, .int .i64 p1, .int .i64 p2, .int .i64 fd, v7] TN) = W1 := ⟨_, rfl⟩
 have hs1 : W1.heap.size = w.heap.size + 1 := by rw [← hW1, World.size_alloc]
 have hb1 : Below w.heap.size w W1 := by rw [← hW1]; exact (Below.refl w.heap.size w).alloc (Nat.le_refl _) _
 rw [hW1] at hby
 have HBY := Lib.hid hby
 have HW1 := Lib.hid hW1
 have HB1 := Lib.hid hb1
 have HS1 := Lib.hid hs1
 clear hb h hby hW1 hb1 hs1
 go_enter Tryz.func31, Tryz.ntmps31
 go_upto_region 2 with (fail)
 rw [HW1.out]
 obtain ⟨y0, y1, y2, y3, y4, y5, y6, y7⟩ := HBY.out W1 (Below.refl _ _)
 go_wp2_with (first
  | (go_at_call 32; (with_reducible refine (CC.out _).mono ?_); rintro e w2 ⟨rfl, hb⟩; have HK2 := Lib.hid (H.out.keep (HB1.out.trans (hb.mono HB1.out.size))); have HP2 := Lib.hid (Keeps.of_below (HB1.out.trans (hb.mono HB1.out.size))); (obtain ⟨z0, z1, z2, z3, z4, z5, z6, z7⟩ := HBY.out w2 (hb.mono (Nat.le_of_eq HS1.out.symm))); clear hb; rw [HB.out]; (obtain ⟨v1, hv1, hr1⟩ := (HK2.out).out); (obtain ⟨A1, c1, rfl⟩ := Kd.R_slice hr1); have cv1 := blk_cell hv1 0; have fv1 := blk_frozen hv1 0; simp only [List.getElem?_toArray, List.getElem?_cons_zero] at cv1; have HR1 := Lib.hid hr1; have HV1 := Lib.hid hv1; clear hr1 hv1)
  | ((with_reducible refine gate_dst (N := 48) rfl ?_); refine Kd.R_append kEv (w0 := w2) (w0.heap.size + 3) rfl (.tmp 43) (.tmp 47) 41 48 _ 64 rfl Tryz.underlying41 infoEv rfl (by decide) (by decide) (.slice A1 (xs).length c1) (xs) (⟨4, 0, ⟨k0, tx, ⟨p0, p1, p2⟩, fd⟩⟩) (evCells (⟨4, 0, ⟨k0, tx, ⟨p0, p1, p2⟩, fd⟩⟩)) (fun _ => True) (fun _ => False) rfl rfl (ev_M _ _ _) (fun _ h => h.elim) (fun _ _ => trivial) HR1.out (Below.refl _ _) (HK2.out).size HF1.out ?_; intro v3 w3 ho _ hg _; (obtain ⟨A3, c3, rfl⟩ := Kd.R_slice ho); have HG3 := Lib.hid hg; have HO3 := Lib.hid ho; have hm3 := Lib.hid ((hg.block (w0.heap.size + 1) (by have := (HK2.out).size; omega) (fun he => by have := Kd.R_base HR1.out _ he.symm; omega)).trans HV1.out); have cm3 := blk_cell hm3.out 0; have fm3 := blk_frozen hm3.out 0; simp only [List.getElem?_toArray, List.getElem?_cons_zero] at cm3; clear ho hg)
  | ((with_reducible refine gate_ (.store 41 (.tmp 1) (.tmp 48)) rfl ?_); refine wl_box rfl rfl _ _ _ rfl _ [.slice A3 ((xs) ++ [(⟨4, 0, ⟨k0, tx, ⟨p0, p1, p2⟩, fd⟩⟩ : Ev)]).length c3] rfl rfl rfl infoEvS (fun u hu => by rw [List.mem_singleton.1 hu]; rfl) hm3.out rfl ?_; intro w5 h5 hu; have HKw5 := Lib.hid (Out.told HK2.out HR1.out HO3.out HG3.out h5 hu); have HPw5 := Lib.hid (Keeps.told HK2.out HR1.out HG3.out hu); clear h5 hu))
 refine bodyPost_end (results_none rfl _ _ _) rfl ?_
 refine ⟨⟨_, rfl⟩, ?_, HP2.out.trans HPw5.out⟩
 have ht := HKw5.out
 have he : evTok ⟨k0, tx, ⟨p0, p1, p2⟩, fd⟩ = ⟨4, 0, ⟨k0, tx, ⟨p0, p1, p2⟩, fd⟩⟩ := by unfold evTok; rw [HB.out]; rfl
 rw [he]
 exact ht
theorem kid_at {w : World} {A : Option Addr} {n : Nat} {l : List Nd} (h : Kd.C kNd w A n l) (i : Nat) (x : Nd) (hi : i < n) (hx : l[i]? = some x) : ∃ ad A1 c1, A = some ad ∧ (w.cell? (ad.add (i * 8)) = some (.int .u8 x.f0) ∧ w.cell? ⟨(ad.add (i * 8)).block, (ad.add (i * 8)).off + 1, none⟩ = some (.int .u8 x.f1.f0) ∧ w.cell? ⟨(ad.add (i * 8)).block, (ad.add (i * 8)).off + 2, none⟩ = some (.string x.f1.f1) ∧ w.cell? ⟨(ad.add (i * 8)).block, (ad.add (i * 8)).off + 3, none⟩ = some (.int .i64 x.f1.f2.f0) ∧ w.cell? ⟨(ad.add (i * 8)).block, (ad.add (i * 8)).off + 4, none⟩ = some (.int .i64 x.f1.f2.f1) ∧ w.cell? ⟨(ad.add (i * 8)).block, (ad.add (i * 8)).off + 5, none⟩ = some (.int .i64 x.f1.f2.f2) ∧ w.cell? ⟨(ad.add (i * 8)).block, (ad.add (i * 8)).off + 6, none⟩ = some (.int .i64 x.f1.f3) ∧ w.cell? ⟨(ad.add (i * 8)).block, (ad.add (i * 8)).off + 7, none⟩ = some (.slice A1 x.f2.length c1)) ∧ x.f2.length ≤ c1 ∧ Kd.C kNd w A1 x.f2.length x.f2 := by
 obtain ⟨ad, A1, c1, h0, k0, k1, k2, k3, k4, k5, k6, k7, hl, hc⟩ := PSyntaxEvents.at_T32 h (i : Int) (by omega) (by omega)
 have hr : PSyntaxEvents.rd_T32 l (i : Int) = x := by simp [PSyntaxEvents.rd_T32, List.getD, hx]
 rw [hr] at k0 k1 k2 k3 k4 k5 k6 k7 hl hc
 rw [Int.toNat_natCast] at k0 k1 k2 k3 k4 k5 k6 k7
 exact ⟨ad, A1, c1, h0, ⟨k0, k1, k2, k3, k4, k5, k6, k7⟩, hl, hc⟩
set_option maxRecDepth 100000 in
set_option maxHeartbeats 8000000 in
theorem walk_any (w0 : World) : ∀ (N : Nat) (x : Nd) (A : Option Addr) (n c : Nat), nds x ≤ N → x.f2.length = n → n ≤ c → Kd.C kNd w0 A n x.f2 → ∀ (w : World) (xs : List Ev), Out w0 w xs → xs.length + 2 * nds x ≤ 549755813892 →
  Calls Tryz.prog 31 #[.agg #[.int .u8 x.f0, .int .u8 x.f1.f0, .string x.f1.f1, .int .i64 x.f1.f2.f0, .int .i64 x.f1.f2.f1, .int .i64 x.f1.f2.f2, .int .i64 x.f1.f3, .slice A n c], .pointer (some ⟨w0.heap.size + 1, 0, none⟩), .pointer (some ⟨w0.heap.size + 2, 0, none⟩)] w fun e w' => OutPost w0 w (xs ++ tells x) e w' := by
 intro N
 induction N with
 | zero => intro x A n c hN; have := nds_pos x; omega
 | succ N ih =>
  intro x A n c hN hn hnc hC w xs h hl
  by_cases hk : x.f0 = 0
  ·have hp := nds_pos x
   have ht : tells x = [evTok x.f1] := by rw [tells_eq, if_pos hk]
   rw [ht, hk]
   cases hb : isNote x.f1 with
   | false => exact walk_tok_false w0 w x.f1 _ xs hb h (by omega)
   | true => exact walk_tok_true w0 w x.f1 _ xs hb h (by omega)
  ·have HC := Lib.hid hC
   have H := Lib.hid h
   have HT : Hid (tells x = evOpen x.f0 :: (tellsL x.f2 ++ [evClose x.f0])) := Lib.hid (by rw [tells_eq, if_neg hk])
   have hsz := nds_eq x
   have HSZ := Lib.hid hsz
   have HNN := Lib.hid hN
   have HLL := Lib.hid hl
   have hn24 : n ≤ 549755813892 := by have := ndsL_len x.f2; omega
   have dk : (x.f0 != 0) = true := bne_iff_ne.2 hk
   obtain ⟨k, t, kids⟩ := x
   obtain ⟨k0, tx, ⟨p0, p1, p2⟩, fd⟩ := t
   dsimp only at *
   have IH := Lib.hid ih
   have HN := Lib.hid hn
   have HF1 : Hid ((xs.length + 1) * 64 ≤ 140737488355328) := Lib.hid (by omega)
   have hby : ∀ w1, Below (w.heap.size + 1) (w.alloc (.cells #[.int .u8 k, .int .u8 k0, .string tx, .int .i64 p0, .int .i64 p1, .int .i64 p2, .int .i64 fd, .slice A n c] TN)) w1 → _ := fun w1 h => box8 h
   obtain ⟨W1, hW1⟩ : ∃ W1, w.alloc (.cells #[.int .u8 k, .int .u8 k0, .string tx, .int .i64 p0, .int .i64 p1, .int .i64 p2, .int .i64 fd, .slice A n c] TN) = W1 := ⟨_, rfl⟩
   have hs1 : W1.heap.size = w.heap.size + 1 := by rw [← hW1, World.size_alloc]
   have hb1 : Below w.heap.size w W1 := by rw [← hW1]; exact (Below.refl w.heap.size w).alloc (Nat.le_refl _) _
   rw [hW1] at hby
   have HBY := Lib.hid hby
   have HW1 := Lib.hid hW1
   have HB1 := Lib.hid hb1
   have hnb : W1.heap[w.heap.size]? = some (.cells #[.int .u8 k, .int .u8 k0, .string tx, .int .i64 p0, .int .i64 p1, .int .i64 p2, .int .i64 fd, .slice A n c] TN (0, 0)) := by rw [← hW1]; exact heap_alloc_new w _
   have HNB := Lib.hid hnb
   have HNE : Hid (w.heap.size ≠ w0.heap.size + 1) := Lib.hid (by have := h.size; omega)
   have HS1 := Lib.hid hs1
   have HK1 := Lib.hid (h.keep hb1)
   clear h hby hW1 hb1 hs1 hnb hC ih hn hsz hN hl hk
   go_enter Tryz.func31, Tryz.ntmps31
   go_upto_region 2 with (fail)
   rw [HW1.out]
   obtain ⟨y0, y1, y2, y3, y4, y5, y6, y7⟩ := HBY.out W1 (Below.refl _ _)
   (obtain ⟨v1, hv1, hr1⟩ := (HK1.out).out); (obtain ⟨A1, c1, rfl⟩ := Kd.R_slice hr1); have cv1 := blk_cell hv1 0; have fv1 := blk_frozen hv1 0; simp only [List.getElem?_toArray, List.getElem?_cons_zero] at cv1; have HR1 := Lib.hid hr1; have HV1 := Lib.hid hv1; clear hr1 hv1
   go_wp2_with (first
    | ((with_reducible refine gate_dst (N := 21) rfl ?_); refine Kd.R_append kEv (w0 := W1) (w0.heap.size + 3) rfl (.tmp 16) (.tmp 20) 41 48 _ 64 rfl Tryz.underlying41 infoEv rfl (by decide) (by decide) (.slice A1 (xs).length c1) (xs) (⟨1, k, noTk⟩) (evCells (⟨1, k, noTk⟩)) (fun _ => True) (fun _ => False) rfl rfl (ev_M _ _ _) (fun _ h => h.elim) (fun _ _ => trivial) HR1.out (Below.refl _ _) (HK1.out).size HF1.out ?_; intro v3 w3 ho _ hg _; (obtain ⟨A3, c3, rfl⟩ := Kd.R_slice ho); have HG3 := Lib.hid hg; have HO3 := Lib.hid ho; have hm3 := Lib.hid ((hg.block (w0.heap.size + 1) (by have := (HK1.out).size; omega) (fun he => by have := Kd.R_base HR1.out _ he.symm; omega)).trans HV1.out); have cm3 := blk_cell hm3.out 0; have fm3 := blk_frozen hm3.out 0; simp only [List.getElem?_toArray, List.getElem?_cons_zero] at cm3; clear ho hg)
    | ((with_reducible refine gate_ (.store 41 (.tmp 1) (.tmp 21)) rfl ?_); refine wl_box rfl rfl _ _ _ rfl _ [.slice A3 ((xs) ++ [(⟨1, k, noTk⟩ : Ev)]).length c3] rfl rfl rfl infoEvS (fun u hu => by rw [List.mem_singleton.1 hu]; rfl) hm3.out rfl ?_; intro w5 h5 hu; have HKw5 := Lib.hid (Out.told HK1.out HR1.out HO3.out HG3.out h5 hu); have HPw5 := Lib.hid (Keeps.told HK1.out HR1.out HG3.out hu); have HBw5 := Lib.hid (HPw5.out _ _ HNB.out); (obtain ⟨q0, q1, q2, q3, q4, q5, q6, q7⟩ := cells8 HBw5.out); clear h5 hu))
   have HB5 := HBw5
   have HP0 := Lib.hid ((Keeps.of_below HB1.out).trans HPw5.out)
   have HK5 : Hid (Out w0 w5 (xs ++ [⟨1, k, noTk⟩] ++ tellsL (kids.take 0))) := Lib.hid (by rw [List.take_zero, tellsL, List.append_nil]; exact HKw5.out)
   clear HBw5 HPw5 HKw5 q0 q1 q2 q3 q4 q5 q6 q7
   go_loopw [25] (fun kv wr => ∃ i : Nat, i ≤ n ∧ kv = .int .i64 i ∧ Hid (Out w0 wr (xs ++ [⟨1, k, noTk⟩] ++ tellsL (kids.take i)) ∧ Keeps w wr ∧ wr.heap[w.heap.size]? = some (.cells #[.int .u8 k, .int .u8 k0, .string tx, .int .i64 p0, .int .i64 p1, .int .i64 p2, .int .i64 fd, .slice A n c] TN (0, 0)))) (fun kv _ => n - (intOf kv).toNat)
   case atStart => exact ⟨0, by omega, rfl, Lib.hid ⟨HK5.out, HP0.out, HB5.out⟩⟩
   case round =>
    clear HK5 HP0 HB5
    obtain ⟨i, hi, rfl, HL⟩ := hrel
    by_cases hlt : i < n
    ·have hi2 : i < kids.length := by rw [HN.out]; exact hlt
     obtain ⟨y, hy⟩ : ∃ y, kids[i]? = some y := ⟨kids[i], List.getElem?_eq_getElem hi2⟩
     obtain ⟨ad, A1, c1, rfl, hcs, hl1, hC1⟩ := kid_at HC.out i y hlt hy
     obtain ⟨k0', k1', k2', k3', k4', k5', k6', k7'⟩ := hcs
     have hbw := HL.out.1.below
     replace k0' := pw_cell_below hbw k0'
     replace k1' := pw_cell_below hbw k1'
     replace k2' := pw_cell_below hbw k2'
     replace k3' := pw_cell_below hbw k3'
     replace k4' := pw_cell_below hbw k4'
     replace k5' := pw_cell_below hbw k5'
     replace k6' := pw_cell_below hbw k6'
     replace k7' := pw_cell_below hbw k7'
     have cW := blk_cell HL.out.1.walk 0
     simp only [List.getElem?_toArray, List.getElem?_cons_zero] at cW
     have hny : nds y ≤ N := by have h1 := ndsL_mem (List.mem_of_getElem? hy); have h2 := HSZ.out; have h3 := HNN.out; omega
     have hty := take_tells hy
     have htl := tellsL_len (kids.take i)
     have hnt := take_nds (l := kids) i
     have hn1 : ndsL (kids.take i) + nds y ≤ ndsL kids := by
      have h1 := take_nds (l := kids) (i + 1)
      rw [List.take_add_one, hy, ndsL_append] at h1
      simp [ndsL_one] at h1
      exact h1
     have IHY : Hid (∀ w', Below wr.heap.size wr w' → Calls Tryz.prog 31 #[.agg #[.int .u8 y.f0, .int .u8 y.f1.f0, .string y.f1.f1, .int .i64 y.f1.f2.f0, .int .i64 y.f1.f2.f1, .int .i64 y.f1.f2.f2, .int .i64 y.f1.f3, .slice A1 y.f2.length c1], .pointer (some ⟨w0.heap.size + 1, 0, none⟩), .pointer (some ⟨w0.heap.size + 2, 0, none⟩)] w' fun e w'' => OutPost w0 w' (xs ++ [⟨1, k, noTk⟩] ++ tellsL (kids.take (i + 1))) e w'') := Lib.hid fun w' hb => by
      rw [hty, ← List.append_assoc]
      exact IH.out y A1 y.f2.length c1 hny rfl hl1 hC1 w' _ (HL.out.1.keep hb) (by
       have h1 := HLL.out
       have h2 := HSZ.out
       simp only [List.length_append, List.length_singleton]
       omega)
     have hbz : ∀ w1, Below (wr.heap.size + 1) (wr.alloc (.cells #[.int .u8 y.f0, .int .u8 y.f1.f0, .string y.f1.f1, .int .i64 y.f1.f2.f0, .int .i64 y.f1.f2.f1, .int .i64 y.f1.f2.f2, .int .i64 y.f1.f3, .slice A1 y.f2.length c1] TN)) w1 → _ := fun w1 h => box8 h
     obtain ⟨W6, hW6⟩ : ∃ W6, wr.alloc (.cells #[.int .u8 y.f0, .int .u8 y.f1.f0, .string y.f1.f1, .int .i64 y.f1.f2.f0, .int .i64 y.f1.f2.f1, .int .i64 y.f1.f2.f2, .int .i64 y.f1.f3, .slice A1 y.f2.length c1] TN) = W6 := ⟨_, rfl⟩
     have hb6 : Below wr.heap.size wr W6 := by rw [← hW6]; exact (Below.refl wr.heap.size wr).alloc (Nat.le_refl _) _
     rw [hW6] at hbz
     have HBZ := Lib.hid hbz
     have HW6 := Lib.hid hW6
     have HB6 := Lib.hid hb6
     have cW6 := pw_cell_below hb6 cW
     clear hy hl1 hC1 hbw hny hty htl hnt hn1 hi2 hbz hW6 hb6 cW
     go_upto_region 7 with (fail)
     rw [HW6.out]
     obtain ⟨q0, q1, q2, q3, q4, q5, q6, q7⟩ := HBZ.out W6 (Below.refl _ _)
     go_wp2_with (first
      | (go_at_call 31; (with_reducible refine (IHY.out _ HB6.out).mono ?_); rintro e w2 ⟨⟨v2, rfl⟩, ho2, hp2⟩; have HO2 := Lib.hid ho2; have HP2 := Lib.hid ((Keeps.of_below HB6.out).trans hp2); clear ho2 hp2))
     go_roundw
     case rel => exact ⟨i + 1, by omega, by go_num, Lib.hid ⟨HO2.out, HL.out.2.1.trans HP2.out, HP2.out _ _ HL.out.2.2⟩⟩
     case measure => simp [intOf]; omega
    ·obtain rfl : n = i := by omega
     have hall : kids.take n = kids := List.take_of_length_le (by rw [HN.out]; exact Nat.le_refl _)
     have HL2 : Hid (Out w0 wr (xs ++ [⟨1, k, noTk⟩] ++ tellsL kids)) := Lib.hid (by have h := HL.out.1; rw [hall] at h; exact h)
     have HNB2 := Lib.hid HL.out.2.2
     have HKP := Lib.hid HL.out.2.1
     obtain ⟨ys, hys⟩ : ∃ ys, xs ++ [⟨1, k, noTk⟩] ++ tellsL kids = ys := ⟨_, rfl⟩
     have HYS := Lib.hid hys
     have HF5 : Hid ((ys.length + 1) * 64 ≤ 140737488355328) := Lib.hid (by
      have h1 := HLL.out
      have h2 := HSZ.out
      have h3 := tellsL_len kids
      rw [← hys]
      simp only [List.length_append, List.length_singleton]
      omega)
     rw [hys] at HL2
     clear hall HL hys
     obtain ⟨q0, q1, q2, q3, q4, q5, q6, q7⟩ := cells8 HNB2.out
     (obtain ⟨v5, hv5, hr5⟩ := (HL2.out).out); (obtain ⟨A5, c5, rfl⟩ := Kd.R_slice hr5); have cv5 := blk_cell hv5 0; have fv5 := blk_frozen hv5 0; simp only [List.getElem?_toArray, List.getElem?_cons_zero] at cv5; have HR5 := Lib.hid hr5; have HV5 := Lib.hid hv5; clear hr5 hv5
     go_wp2_with (first
      | ((with_reducible refine gate_dst (N := 38) rfl ?_); refine Kd.R_append kEv (w0 := wr) (w0.heap.size + 3) rfl (.tmp 33) (.tmp 37) 41 48 _ 64 rfl Tryz.underlying41 infoEv rfl (by decide) (by decide) (.slice A5 (ys).length c5) (ys) (⟨3, k, noTk⟩) (evCells (⟨3, k, noTk⟩)) (fun _ => True) (fun _ => False) rfl rfl (ev_M _ _ _) (fun _ h => h.elim) (fun _ _ => trivial) HR5.out (Below.refl _ _) (HL2.out).size HF5.out ?_; intro v6 w6 ho _ hg _; (obtain ⟨A6, c6, rfl⟩ := Kd.R_slice ho); have HG6 := Lib.hid hg; have HO6 := Lib.hid ho; have hm6 := Lib.hid ((hg.block (w0.heap.size + 1) (by have := (HL2.out).size; omega) (fun he => by have := Kd.R_base HR5.out _ he.symm; omega)).trans HV5.out); have cm6 := blk_cell hm6.out 0; have fm6 := blk_frozen hm6.out 0; simp only [List.getElem?_toArray, List.getElem?_cons_zero] at cm6; clear ho hg)
      | ((with_reducible refine gate_ (.store 41 (.tmp 1) (.tmp 38)) rfl ?_); refine wl_box rfl rfl _ _ _ rfl _ [.slice A6 ((ys) ++ [(⟨3, k, noTk⟩ : Ev)]).length c6] rfl rfl rfl infoEvS (fun u hu => by rw [List.mem_singleton.1 hu]; rfl) hm6.out rfl ?_; intro w7 h5 hu; have HKw7 := Lib.hid (Out.told HL2.out HR5.out HO6.out HG6.out h5 hu); have HPw7 := Lib.hid (Keeps.told HL2.out HR5.out HG6.out hu); clear h5 hu))
     refine bodyPost_end (results_none rfl _ _ _) rfl ?_
     refine ⟨⟨_, rfl⟩, ?_, HKP.out.trans HPw7.out⟩
     have ht := HKw7.out
     rw [HT.out]
     rw [← HYS.out] at ht
     simpa [evOpen, evClose] using ht
end Go.Proofs.YtmjbpgnjgblnmaaGreat.Tr
set_option maxRecDepth 100000
namespace Go.Proofs.YtmjbpgnjgblnmaaGreat.Tr
open Go.RowKit Go.Proofs.YtmjbpgnjgblnmaaGreatW.PrintWords Go.Proofs.YtmjbpgnjgblnmaaGreatW.PrintLast Go.Proofs.YtmjbpgnjgblnmaaGreatW.PrintMore
def EvPost (w0 : World) (l : List Ev) (e : Ending) (w' : World) : Prop := ∃ v, e = .returned v ∧ Kd.R kEv TE w' w0.heap.size (fun _ => True) v l ∧ Below w0.heap.size w0 w'
theorem heap_old {w : World} {o o' : Obj} {k : Nat} (h : w.heap[k]? = some o') : (w.alloc o).heap[k]? = some o' := (Below.heap_alloc w o k (blk_lt h)).trans h
theorem out_start (w0 : World) (nb : Obj) : Out w0 (((w0.alloc nb).alloc (.cells #[.slice none 0 0] 41)).alloc (.cells #[.func (.func 31) #[] #[.pointer (some ⟨w0.heap.size + 1, 0, none⟩), .pointer (some ⟨w0.heap.size + 2, 0, none⟩)]] 37)) [] := by
 have h1 := heap_alloc_new (w0.alloc nb) (.cells #[.slice none 0 0] 41)
 have h2 := heap_alloc_new ((w0.alloc nb).alloc (.cells #[.slice none 0 0] 41)) (.cells #[.func (.func 31) #[] #[.pointer (some ⟨w0.heap.size + 1, 0, none⟩), .pointer (some ⟨w0.heap.size + 2, 0, none⟩)]] 37)
 rw [World.size_alloc] at h1
 rw [World.size_alloc, World.size_alloc] at h2
 refine ⟨⟨.slice none 0 0, heap_old h1, Kd.R_nil _ _ _ _ _⟩, h2, ?_, ?_⟩
 ·exact (((Below.refl w0.heap.size w0).alloc (Nat.le_refl _) _).alloc (by simp) _).alloc (by simp; omega) _
 ·simp only [World.size_alloc]; omega
set_option maxRecDepth 100000 in
set_option maxHeartbeats 2000000 in
theorem events_any (x : Nd) (A : Option Addr) (n c : Nat) (w0 : World) (hn : x.f2.length = n) (hc : n ≤ c) (hC : Kd.C kNd w0 A n x.f2) (hl : 2 * nds x ≤ 549755813892) :
  Calls Tryz.prog 13 #[.agg #[.int .u8 x.f0, .int .u8 x.f1.f0, .string x.f1.f1, .int .i64 x.f1.f2.f0, .int .i64 x.f1.f2.f1, .int .i64 x.f1.f2.f2, .int .i64 x.f1.f3, .slice A n c]] w0 fun e w' => EvPost w0 (tells x) e w' := by
 have hW := Lib.hid (fun w (h : Out w0 w []) => walk_any w0 (nds x) x A n c (Nat.le_refl _) hn hc hC w [] h (by simpa using hl))
 have HS := Lib.hid (out_start w0 (.cells #[.int .u8 x.f0, .int .u8 x.f1.f0, .string x.f1.f1, .int .i64 x.f1.f2.f0, .int .i64 x.f1.f2.f1, .int .i64 x.f1.f2.f2, .int .i64 x.f1.f3, .slice A n c] TN))
 obtain ⟨ys, hys⟩ : ∃ ys, tells x = ys := ⟨_, rfl⟩
 rw [List.nil_append, hys] at hW
 rw [hys]
 clear hn hc hC hl hys
 go_enter Tryz.func13, Tryz.ntmps13
 go_wp2_with (first
  | (go_at_call 31; (with_reducible refine (hW.out _ HS.out).mono ?_); rintro e w2 ⟨⟨v2, rfl⟩, ho2, hp2⟩; (obtain ⟨v3, hv3, hr3⟩ := ho2.out); have cv3 := blk_cell hv3 0; simp only [List.getElem?_toArray, List.getElem?_cons_zero] at cv3; have HR3 := Lib.hid hr3; have HB3 := Lib.hid ho2.below; clear ho2 hp2 hr3 hv3))

 go_ret
 exact ⟨_, rfl, Kd.R_lower HR3.out (by omega), HB3.out⟩
end Go.Proofs.YtmjbpgnjgblnmaaGreat.Tr
namespace Go.Proofs.YtmjbpgnjgblnmaaGreat
open Go.RowKit Go.Proofs.YtmjbpgnjgblnmaaGreatW.PrintWords Go.Proofs.YtmjbpgnjgblnmaaGreatW.PrintLast Go.Proofs.YtmjbpgnjgblnmaaGreatW.PrintMore
theorem idx_nums {i n : Nat} (h : i < n) (hn : n ≤ 4194304) : (i : Int) < (n : Int) ∧ (0 : Int) ≤ (i : Int) ∧ wrap64 ((i : Int) + 1) = (i : Int) + 1 ∧ IntKind.i64.wrap ((i : Int) + 1) = (i : Int) + 1 := by
 simp only [IntKind.wrap_i64]
 unfold wrap64
 omega
theorem idx_big {i n : Nat} (h : i < n) (hn : n ≤ 274877906945) : (i : Int) < (n : Int) ∧ (0 : Int) ≤ (i : Int) ∧ wrap64 ((i : Int) + 1) = (i : Int) + 1 ∧ IntKind.i64.wrap ((i : Int) + 1) = (i : Int) + 1 := by
 simp only [IntKind.wrap_i64]
 unfold wrap64
 omega
theorem prog_size {l : List Tk} (hl : l.length ≤ 4194304) (he : progE l = 0) : Tr.nds (prNd l) ≤ 274877906945 := by
 obtain ⟨X, hX, -⟩ := prog_tree l he
 have hp : prNd l = X := by
  unfold prNd
  unfold progE at he
  rw [if_pos he, Tr.bld_some hX]
 have r1 := Tr.run_nds _ _ _ hX
 have l1 := prog_evs hl he
 rw [hp]
 simp only [Tr.ndsL] at r1
 omega
theorem ev_at {w : World} {A : Option Addr} {n : Nat} {E : List Ev} (h : Kd.C kEv w A n E) (i : Nat) (e : Ev) (hi : i < n) (he : E[i]? = some e) : ∃ ad, A = some ad ∧ w.cell? (ad.add (i * 8)) = some (.int .u8 e.f0) ∧ w.cell? ⟨(ad.add (i * 8)).block, (ad.add (i * 8)).off + 1, none⟩ = some (.int .u8 e.f1) ∧ w.cell? ⟨(ad.add (i * 8)).block, (ad.add (i * 8)).off + 2, none⟩ = some (.int .u8 e.f2.f0) ∧ w.cell? ⟨(ad.add (i * 8)).block, (ad.add (i * 8)).off + 3, none⟩ = some (.string e.f2.f1) ∧ w.cell? ⟨(ad.add (i * 8)).block, (ad.add (i * 8)).off + 4, none⟩ = some (.int .i64 e.f2.f2.f0) ∧ w.cell? ⟨(ad.add (i * 8)).block, (ad.add (i * 8)).off + 5, none⟩ = some (.int .i64 e.f2.f2.f1) ∧ w.cell? ⟨(ad.add (i * 8)).block, (ad.add (i * 8)).off + 6, none⟩ = some (.int .i64 e.f2.f2.f2) ∧ w.cell? ⟨(ad.add (i * 8)).block, (ad.add (i * 8)).off + 7, none⟩ = some (.int .i64 e.f2.f3) := by
 obtain ⟨ad, h0, k0, k1, k2, k3, k4, k5, k6, k7⟩ := PSyntaxEvents.at_T48 h (i : Int) (by omega) (by omega)
 have hr : PSyntaxEvents.rd_T48 E (i : Int) = e := by simp [PSyntaxEvents.rd_T48, List.getD, he]
 rw [hr] at k0 k1 k2 k3 k4 k5 k6 k7
 rw [Int.toNat_natCast] at k0 k1 k2 k3 k4 k5 k6 k7
 exact ⟨ad, h0, k0, k1, k2, k3, k4, k5, k6, k7⟩
set_option maxRecDepth 100000 in
set_option maxHeartbeats 2000000 in
theorem events_law (A : Option Addr) (c : Nat) (l : List Tk) (w : World) (hC : Kd.C kTk w A l.length l) (hl : l.length ≤ 4194304) :
  Calls Tryz.prog 4 #[.slice A l.length c] w fun e w' => e = .returned (.bool true) ∧ Below w.heap.size w w' := by
 have HAW := Lib.hid (awake_any w)
 have HPR := Lib.hid (fun (w1 : World) (hb : Below w.heap.size w w1) => prog_any A c l w1 (Kd.C_below hC hb) hl)
 have HC := Lib.hid (fun (w1 : World) (hb : Below w.heap.size w w1) => Kd.C_below hC hb)
 have HL := Lib.hid hl
 have g0 : ¬ ((4194304 : Int) < (l.length : Int)) := by omega
 clear hC hl
 go_enter Tryz.func4, Tryz.ntmps4
 go_upto_region 6 with (first | (go_at_call 5; (with_reducible refine Calls.mono HAW.out ?_); rintro e w1 ⟨rfl, hb1⟩; have HB1 := Lib.hid hb1; clear hb1) | (go_at_call 6; (with_reducible refine Calls.mono (HPR.out _ HB1.out) ?_); rintro e w2 ⟨v2, rfl, ho2, hb2⟩; obtain ⟨A2, ca2, hv2, hlc2, hk2⟩ := Tr.ownS_C ho2; subst hv2; have HK2 := Lib.hid (And.intro hlc2 hk2); have HB2 := Lib.hid (HB1.out.trans (hb2.mono HB1.out.size)); clear ho2 hb2 hlc2 hk2) | ((with_reducible refine gate_ (.store 32 (.tmp 4) (.tmp 28)) rfl ?_); refine Tr.wl_box rfl rfl _ _ _ rfl (ndAgg (prNd l) (.slice A2 (prNd l).f2.length ca2)) (Tr.ndCells (prNd l).f0 (prNd l).f1 (.slice A2 (prNd l).f2.length ca2)) rfl rfl rfl Tr.infoNd8 (Tr.ndCells_one _ _ rfl) (World.alloc_heap_new w2 _) rfl ?_; intro w3 h3 hu3; have HU3 := Lib.hid (box_up hu3); have X3 := Lib.hid h3; have HB3 := Lib.hid (HB2.out.trans (HU3.out.mono HB2.out.size)); have HN := Lib.hid (New_any w3); clear h3 hu3) | (go_at_call 10; (with_reducible refine Calls.mono HN.out ?_); rintro e W1 ⟨vt0, rfl, hp1, hb1⟩; have HP1 := Lib.hid hp1; have HBN := Lib.hid hb1; clear hp1 hb1))
 have HI0 : Hid (AllI w3.heap.size w3 l 0 W1 newPar [] [] [] vt0 (.slice none 0 0) (.slice none 0 0)) := Lib.hid ⟨by rw [List.drop_zero]; simp, newPar_inv, HP1.out.ends, HP1.out.at_, HBN.out, nil_row _ _ _ _, fun g h => (by cases h), by decide, by decide, Nat.le_refl _⟩
 have HK3 := Lib.hid (And.intro HK2.out.1 (Kd.C_below HK2.out.2 HU3.out))
 have HG3 : Hid (w2.heap.size < w3.heap.size) := Lib.hid (blk_lt X3.out)
 obtain ⟨g4, hg4⟩ : ∃ g, w2.heap.size = g := ⟨_, rfl⟩
 rw [hg4] at X3 HG3 ⊢
 obtain ⟨p, hp⟩ : ∃ p, w3.heap.size = p := ⟨_, rfl⟩
 have HPE := Lib.hid hp
 rw [hp] at HI0 ⊢
 clear hg4 hp HP1 HN HAW HPR HK2 HU3 HB1 HB2 HBN
 go_wp2
 go_loopw [8, 9] (fun v8 v9 wr => ∃ i : Nat, i ≤ l.length ∧ v9 = .int .i64 i ∧ Hid (∃ P op acc es vt ve, AllI p w3 l i wr P op acc es vt ve v8)) (fun _ v9 _ => l.length - (intOf v9).toNat)
 case atStart => exact ⟨0, Nat.zero_le _, rfl, Lib.hid ⟨_, _, _, _, _, _, HI0.out⟩⟩
 case round =>
  obtain ⟨i, hi, rfl, H⟩ := hrel
  obtain ⟨P, op, acc, es, vt, ve, H⟩ := H.out
  by_cases hlt : i < l.length
  ·obtain ⟨ad, rfl, hcells⟩ := tok_cells (HC.out wr (HB3.out.trans (H.below.mono HB3.out.size))) i hlt
   have hdr := drop_rd l i hlt
   obtain ⟨t, ht⟩ : ∃ t, PSyntaxEvents.rd_T28 l i = t := ⟨_, rfl⟩
   rw [ht] at hcells hdr
   obtain ⟨c0, c1, c2, c3, c4, c5⟩ := hcells wr (Below.refl _ _)
   obtain ⟨q1, q2, q3, q4⟩ := idx_nums hlt HL.out
   have HH := Lib.hid H
   have HDR := Lib.hid hdr
   have hpt := put_any p P es vt ve t wr (H.pin (by have := HL.out; omega))
   unfold PutPost at hpt
   clear ht hdr hcells H HI0
   by_cases he : (put P t).2.1 = 0
   ·have hne : (put P t).1 ≠ [] := by
     obtain ⟨_, -, -, h, -⟩ := put_nest HH.out.inv t [] he
     exact h
    have hmb := put_evlen HH.out.inv t he (put_nest HH.out.inv t [] he).choose_spec.1
    obtain ⟨m, hm⟩ : ∃ m, (put P t).1.length = m := ⟨_, rfl⟩
    have hm0 : 0 < m := by rw [← hm]; exact List.length_pos_iff.2 hne
    have HM := Lib.hid (And.intro hm (And.intro hm0 hmb))
    rw [he, hm] at hpt
    have HPT := Lib.hid hpt
    have HE := Lib.hid he
    clear hpt he hne hmb hm hm0
    go_wp2_with (first
     | (go_at_call 11; (with_reducible refine Calls.mono HPT.out ?_); rintro e w5 ⟨v, es2, vt2, ve2, rfl, hA2, hs2, hv2, -⟩; obtain ⟨r1, r2, r3⟩ := HH.out.outs hs2; obtain ⟨gx, cx, rfl, hgx, hgl⟩ := hv2.form HM.out.2.1; have HA2 := Lib.hid hA2; have HS2 := Lib.hid hs2; have HV2 := Lib.hid hv2; have HR2 := Lib.hid (And.intro r1 r2); clear c0 c1 c2 c3 c4 c5 hA2 hs2 hv2 r1 r2 r3 hgx hgl)
     | ((with_reducible refine gate_dst (N := 59) rfl ?_); refine wl_evs rfl (.tmp 57) (.tmp 58) rfl w3.heap.size rfl HR2.out.1 rfl HV2.out (evs_one _) HM.out.2.1 (by have := HH.out.ba; have := HL.out; have := HM.out; omega) HR2.out.2.size ?_; intro g5 c5 w6 ho hg hat; obtain ⟨op', hI⟩ := HH.out.next HDR.out HE.out HA2.out HS2.out (g1 := g5) (c1 := c5) (by rw [HM.out.1]; exact ho) hg hat; rw [HM.out.1] at hI; have HI3 := Lib.hid hI; clear ho hg hat hI))
    go_roundw
    case rel => exact ⟨i + 1, by omega, by go_num, Lib.hid ⟨_, _, _, _, _, _, HI3.out⟩⟩
    case measure => simp [intOf] <;> omega
   ·have e9 : ((put P t).2.1 != 0) = true := by rw [bne_iff_ne]; exact he
    have heq : allP newPar l = (acc, (put P t).2.1, i) := by
     rw [HH.out.eq, HDR.out, all_cons_bad he]
     simp
    have hpe : progE l = (put P t).2.1 := by unfold progE; rw [heq]
    have hpa : progA l = i := by unfold progA; rw [heq]; rw [if_neg he]
    have HPT := Lib.hid hpt
    clear hpt he heq
    obtain ⟨er, her⟩ : ∃ er, (put P t).2.1 = er := ⟨_, rfl⟩
    rw [her] at e9 HPT hpe
    rw [hpe, hpa]
    clear her hpe hpa
    go_wp2_with (go_at_call 11; (with_reducible refine Calls.mono HPT.out ?_); rintro e w5 ⟨v, es2, vt2, ve2, rfl, hA2, hs2, hv2, -⟩; have HR2 := Lib.hid (HH.out.outs hs2); clear c0 c1 c2 c3 c4 c5 hA2 hs2 hv2)
    go_ret
    exact ⟨rfl, HB3.out.trans (HR2.out.2.1.mono HB3.out.size)⟩
  ·obtain rfl : i = l.length := by omega
   have q1 : ¬ ((l.length : Int) < (l.length : Int)) := by omega
   have heq := H.eq
   rw [List.drop_length] at heq
   simp only [allP, Nat.add_zero] at heq
   have hpt := Close_any p P es vt ve wr (H.pin HL.out)
   unfold ClosePost at hpt
   have HH := Lib.hid H
   clear H HI0
   have hcl : closeP P = if P.todo.length ≠ 1 then ([], 121, { P with closed := true, wrong := 121 }) else ([evOf (3, 1)], 0, { P with closed := true, depth := P.depth - 1 }) := by
    unfold closeP
    rw [HH.out.inv.closed, HH.out.inv.wrong]
    simp
   by_cases h1 : P.todo.length = 1
   ·rw [if_neg (by simp [h1])] at hcl
    rw [hcl] at hpt heq
    dsimp only at hpt
    have hpe : progE l = 0 := by unfold progE; rw [heq]
    have htl := prog_tells hpe
    have hle := prog_evs HL.out hpe
    have HZ := Lib.hid (prog_size HL.out hpe)
    rw [heq] at htl hle
    obtain ⟨E, hE⟩ : ∃ E, acc ++ [evOf (3, 1)] = E := ⟨_, rfl⟩
    dsimp only at htl hle
    rw [hE] at htl hle
    have HTL := Lib.hid htl.1
    have HEL : Hid (E.length ≤ 274877906945) := Lib.hid hle
    have HEE : Hid (acc ++ [evOf (3, 1)] = E) := Lib.hid hE
    rw [hpe]
    have HPT := Lib.hid hpt
    clear hpt heq hcl hpe htl hle hE
    go_upto_region 18 with (first
     | (go_at_call 12; (with_reducible refine Calls.mono HPT.out ?_); rintro e w5 ⟨v, es2, vt2, ve2, rfl, hA2, hs2, hv2, -⟩; obtain ⟨r1, r2, r3⟩ := HH.out.outs hs2; obtain ⟨gx, cx, rfl, hgx, hgl⟩ := hv2.form (by decide); have HV2 := Lib.hid hv2; have HR2 := Lib.hid (And.intro r1 r2); clear hA2 hs2 hv2 r1 r2 r3 hgx hgl)
     | ((with_reducible refine gate_dst (N := 82) rfl ?_); refine wl_evs rfl (.tmp 80) (.tmp 81) rfl w3.heap.size (m := 1) rfl HR2.out.1 rfl HV2.out (evs_one _) (by decide) (by have := HH.out.ba; have := HL.out; omega) HR2.out.2.size ?_; intro g5 c5 w6 ho hg hat; have HB6 := Lib.hid (HR2.out.2.grown hg HR2.out.2.size (own_base HH.out.out)); have HO6 := Lib.hid ho; clear ho hg hat))
    have hrow : w6.ownsRow w3.heap.size 48 8 (.slice (some ⟨g5, 0, none⟩) (acc.length + 1) c5) E.length (E.flatMap evCells) := by
     have h := HO6.out
     rw [← HEE.out, List.length_append, List.flatMap_append]
     simpa using h
    obtain ⟨AE, cE, hvE, hlE, hCE⟩ := evs_any hrow
    have hlen : acc.length + 1 = E.length := by rw [← HEE.out]; simp
    rw [hvE]
    have HCE := Lib.hid hCE
    have X6 := Lib.hid ((HB6.out.block _ (by have := HG3.out; omega)).trans X3.out)
    have HK6 := Lib.hid (And.intro HK3.out.1 (Kd.C_below HK3.out.2 HB6.out))
    have HEV := Lib.hid (Tr.events_any (prNd l) A2 (prNd l).f2.length ca2 w6 rfl HK6.out.1 HK6.out.2 (by have := HZ.out; omega))
    obtain ⟨n0, n1, n2, n3, n4, n5, n6, n7⟩ := Tr.cells8 X6.out
    have HBW := Lib.hid (HB3.out.trans (HB6.out.mono HB3.out.size))
    clear hrow hvE hlE hCE hlen HPT HH HR2 HV2 HO6
    go_upto_region 19 with (go_at_call 13; (with_reducible refine Calls.mono HEV.out ?_); rintro e w7 ⟨v7, rfl, hr7, hb7⟩; obtain ⟨A7, c7, rfl, hl7, hC7⟩ := Kd.R_reads hr7; rw [HTL.out] at hC7; have HC7 := Lib.hid hC7; have HCE7 := Lib.hid (Kd.C_below HCE.out hb7); have HB7 := Lib.hid (HBW.out.trans (hb7.mono HBW.out.size)); clear hr7 hb7 hl7 hC7 n0 n1 n2 n3 n4 n5 n6 n7)
    rw [HTL.out]
    clear HEV HCE X6 HK6 HBW
    go_wp2
    go_loopw [15] (fun v15 wq => ∃ i : Nat, i ≤ E.length ∧ v15 = .int .i64 i ∧ Hid (Below w7.heap.size w7 wq)) (fun v15 _ => E.length - (intOf v15).toNat)
    case atStart => exact ⟨0, Nat.zero_le _, rfl, Lib.hid (Below.refl _ _)⟩
    case round =>
     obtain ⟨i, hi, rfl, H⟩ := hrel
     by_cases hlt : i < E.length
     ·obtain ⟨e, he⟩ : ∃ e, E[i]? = some e := ⟨_, List.getElem?_eq_getElem hlt⟩
      obtain ⟨ad1, rfl, c0, c1, c2, c3, c4, c5, c6, c7⟩ := ev_at (Kd.C_below HCE7.out H.out) i e hlt he
      obtain ⟨ad2, rfl, d0, d1, d2, d3, d4, d5, d6, d7⟩ := ev_at (Kd.C_below HC7.out H.out) i e hlt he
      obtain ⟨p1, p2, p3, p4⟩ := idx_big hlt HEL.out
      clear he
      go_upto_region 24 with (fail)
      obtain ⟨Wd, hWd⟩ : ∃ V, wr.drew = V := ⟨_, rfl⟩
      have hbd : Below wr.heap.size wr Wd := by rw [← hWd]; exact (Below.refl _ wr).drew
      have HS : Hid ((Wd.cell? (ad1.add (i * 8)) = some (.int .u8 e.f0) ∧ Wd.cell? ⟨(ad1.add (i * 8)).block, (ad1.add (i * 8)).off + 1, none⟩ = some (.int .u8 e.f1) ∧ Wd.cell? ⟨(ad1.add (i * 8)).block, (ad1.add (i * 8)).off + 2, none⟩ = some (.int .u8 e.f2.f0) ∧ Wd.cell? ⟨(ad1.add (i * 8)).block, (ad1.add (i * 8)).off + 3, none⟩ = some (.string e.f2.f1) ∧ Wd.cell? ⟨(ad1.add (i * 8)).block, (ad1.add (i * 8)).off + 4, none⟩ = some (.int .i64 e.f2.f2.f0) ∧ Wd.cell? ⟨(ad1.add (i * 8)).block, (ad1.add (i * 8)).off + 5, none⟩ = some (.int .i64 e.f2.f2.f1) ∧ Wd.cell? ⟨(ad1.add (i * 8)).block, (ad1.add (i * 8)).off + 6, none⟩ = some (.int .i64 e.f2.f2.f2) ∧ Wd.cell? ⟨(ad1.add (i * 8)).block, (ad1.add (i * 8)).off + 7, none⟩ = some (.int .i64 e.f2.f3)) ∧ (Wd.cell? (ad2.add (i * 8)) = some (.int .u8 e.f0) ∧ Wd.cell? ⟨(ad2.add (i * 8)).block, (ad2.add (i * 8)).off + 1, none⟩ = some (.int .u8 e.f1) ∧ Wd.cell? ⟨(ad2.add (i * 8)).block, (ad2.add (i * 8)).off + 2, none⟩ = some (.int .u8 e.f2.f0) ∧ Wd.cell? ⟨(ad2.add (i * 8)).block, (ad2.add (i * 8)).off + 3, none⟩ = some (.string e.f2.f1) ∧ Wd.cell? ⟨(ad2.add (i * 8)).block, (ad2.add (i * 8)).off + 4, none⟩ = some (.int .i64 e.f2.f2.f0) ∧ Wd.cell? ⟨(ad2.add (i * 8)).block, (ad2.add (i * 8)).off + 5, none⟩ = some (.int .i64 e.f2.f2.f1) ∧ Wd.cell? ⟨(ad2.add (i * 8)).block, (ad2.add (i * 8)).off + 6, none⟩ = some (.int .i64 e.f2.f2.f2) ∧ Wd.cell? ⟨(ad2.add (i * 8)).block, (ad2.add (i * 8)).off + 7, none⟩ = some (.int .i64 e.f2.f3))) := Lib.hid ⟨⟨pw_cell_below hbd c0, pw_cell_below hbd c1, pw_cell_below hbd c2, pw_cell_below hbd c3, pw_cell_below hbd c4, pw_cell_below hbd c5, pw_cell_below hbd c6, pw_cell_below hbd c7⟩, ⟨pw_cell_below hbd d0, pw_cell_below hbd d1, pw_cell_below hbd d2, pw_cell_below hbd d3, pw_cell_below hbd d4, pw_cell_below hbd d5, pw_cell_below hbd d6, pw_cell_below hbd d7⟩⟩
      have HNX := Lib.hid (H.out.trans (hbd.mono H.out.size))
      have HWd := Lib.hid hWd
      clear hbd hWd c0 c1 c2 c3 c4 c5 c6 c7 d0 d1 d2 d3 d4 d5 d6 d7
      refine wp_region_P (fun w' => (w'.cell? (ad1.add (i * 8)) = some (.int .u8 e.f0) ∧ w'.cell? ⟨(ad1.add (i * 8)).block, (ad1.add (i * 8)).off + 1, none⟩ = some (.int .u8 e.f1) ∧ w'.cell? ⟨(ad1.add (i * 8)).block, (ad1.add (i * 8)).off + 2, none⟩ = some (.int .u8 e.f2.f0) ∧ w'.cell? ⟨(ad1.add (i * 8)).block, (ad1.add (i * 8)).off + 3, none⟩ = some (.string e.f2.f1) ∧ w'.cell? ⟨(ad1.add (i * 8)).block, (ad1.add (i * 8)).off + 4, none⟩ = some (.int .i64 e.f2.f2.f0) ∧ w'.cell? ⟨(ad1.add (i * 8)).block, (ad1.add (i * 8)).off + 5, none⟩ = some (.int .i64 e.f2.f2.f1) ∧ w'.cell? ⟨(ad1.add (i * 8)).block, (ad1.add (i * 8)).off + 6, none⟩ = some (.int .i64 e.f2.f2.f2) ∧ w'.cell? ⟨(ad1.add (i * 8)).block, (ad1.add (i * 8)).off + 7, none⟩ = some (.int .i64 e.f2.f3)) ∧ (w'.cell? (ad2.add (i * 8)) = some (.int .u8 e.f0) ∧ w'.cell? ⟨(ad2.add (i * 8)).block, (ad2.add (i * 8)).off + 1, none⟩ = some (.int .u8 e.f1) ∧ w'.cell? ⟨(ad2.add (i * 8)).block, (ad2.add (i * 8)).off + 2, none⟩ = some (.int .u8 e.f2.f0) ∧ w'.cell? ⟨(ad2.add (i * 8)).block, (ad2.add (i * 8)).off + 3, none⟩ = some (.string e.f2.f1) ∧ w'.cell? ⟨(ad2.add (i * 8)).block, (ad2.add (i * 8)).off + 4, none⟩ = some (.int .i64 e.f2.f2.f0) ∧ w'.cell? ⟨(ad2.add (i * 8)).block, (ad2.add (i * 8)).off + 5, none⟩ = some (.int .i64 e.f2.f2.f1) ∧ w'.cell? ⟨(ad2.add (i * 8)).block, (ad2.add (i * 8)).off + 6, none⟩ = some (.int .i64 e.f2.f2.f2) ∧ w'.cell? ⟨(ad2.add (i * 8)).block, (ad2.add (i * 8)).off + 7, none⟩ = some (.int .i64 e.f2.f3))) (fun _ => true) (by kernel_rfl) ?_
      rw [HWd.out]
      refine anyP_take (i := 0) (oi := ⟨some 100, .move (.tmp 8), 41, "law.go:100", #[], none⟩) (v := ?_) rfl (by kernel_rfl) (fun _ _ _ h => h) (Or.inl ⟨by rfl, ?_⟩) HS.out ?_
      rotate_left
      ·intro x h; (try dsimp only at h); go_simp; try (with_reducible rfl)
      try simp only [Act.put, List.setIfInBounds_toArray, List.set]
      refine anyP_take (i := 1) (oi := ⟨some 101, .move (.tmp 15), 3, "law.go:100", #[], none⟩) (v := ?_) rfl (by kernel_rfl) (fun _ _ _ h => h) (Or.inl ⟨by rfl, ?_⟩) HS.out ?_
      rotate_left
      ·intro x h; (try dsimp only at h); go_simp; try (with_reducible rfl)
      try simp only [Act.put, List.setIfInBounds_toArray, List.set]
      refine anyP_take (i := 2) (oi := ⟨some 102, .indexAddr 41 (.tmp 100) (.tmp 101), 0, "law.go:100", #[⟨0, .data⟩, ⟨1, .data⟩], none⟩) (v := ?_) rfl (by kernel_rfl) (fun _ _ _ h => h) (Or.inl ⟨by rfl, ?_⟩) HS.out ?_
      rotate_left
      ·intro x h; (try dsimp only at h); go_simp; try (with_reducible rfl)
      try simp only [Act.put, List.setIfInBounds_toArray, List.set]
      refine anyP_take (i := 3) (oi := ⟨some 103, .load 48 (.tmp 102), 48, "law.go:100", #[⟨2, .data⟩], none⟩) (v := ?_) rfl (by kernel_rfl) (fun _ _ _ h => h) (Or.inl ⟨by rfl, ?_⟩) HS.out ?_
      rotate_left
      ·intro x h; (try dsimp only at h); go_simp; try (with_reducible rfl)
      try simp only [Act.put, List.setIfInBounds_toArray, List.set]
      refine anyP_take (i := 4) (oi := ⟨some 104, .move (.tmp 14), 41, "law.go:100", #[], none⟩) (v := ?_) rfl (by kernel_rfl) (fun _ _ _ h => h) (Or.inl ⟨by rfl, ?_⟩) HS.out ?_
      rotate_left
      ·intro x h; (try dsimp only at h); go_simp; try (with_reducible rfl)
      try simp only [Act.put, List.setIfInBounds_toArray, List.set]
      refine anyP_take (i := 5) (oi := ⟨some 105, .move (.tmp 15), 3, "law.go:100", #[], none⟩) (v := ?_) rfl (by kernel_rfl) (fun _ _ _ h => h) (Or.inl ⟨by rfl, ?_⟩) HS.out ?_
      rotate_left
      ·intro x h; (try dsimp only at h); go_simp; try (with_reducible rfl)
      try simp only [Act.put, List.setIfInBounds_toArray, List.set]
      refine anyP_take (i := 6) (oi := ⟨some 106, .indexAddr 41 (.tmp 104) (.tmp 105), 0, "law.go:100", #[⟨4, .data⟩, ⟨5, .data⟩], none⟩) (v := ?_) rfl (by kernel_rfl) (fun _ _ _ h => h) (Or.inl ⟨by rfl, ?_⟩) HS.out ?_
      rotate_left
      ·intro x h; (try dsimp only at h); go_simp; try (with_reducible rfl)
      try simp only [Act.put, List.setIfInBounds_toArray, List.set]
      refine anyP_take (i := 7) (oi := ⟨some 107, .load 48 (.tmp 106), 48, "law.go:100", #[⟨6, .data⟩], none⟩) (v := ?_) rfl (by kernel_rfl) (fun _ _ _ h => h) (Or.inl ⟨by rfl, ?_⟩) HS.out ?_
      rotate_left
      ·intro x h; (try dsimp only at h); go_simp; try (with_reducible rfl)
      try simp only [Act.put, List.setIfInBounds_toArray, List.set]
      refine anyP_take (i := 8) (oi := ⟨some 108, .binOp .neq 48 (.tmp 103) (.tmp 107) 48, 4, "law.go:100", #[⟨3, .data⟩, ⟨7, .data⟩], none⟩) (v := ?_) rfl (by kernel_rfl) (fun _ _ _ h => h) (Or.inl ⟨by rfl, ?_⟩) HS.out ?_
      rotate_left
      ·intro x h; (try dsimp only at h); go_simp; try (with_reducible rfl)
      try simp only [Act.put, List.setIfInBounds_toArray, List.set]
      refine anyP_done (by kernel_rfl) ?_ _
      go_wp2
      go_roundw
      case rel => exact ⟨i + 1, by omega, by go_num, HNX⟩
      case measure => simp [intOf] <;> omega
     ·obtain rfl : i = E.length := by omega
      have p1 : ¬ ((E.length : Int) < (E.length : Int)) := by omega
      go_wp2
      go_ret
      exact ⟨rfl, HB7.out.trans (H.out.mono HB7.out.size)⟩
   ·rw [if_pos (by simp [h1])] at hcl
    rw [hcl] at hpt heq
    dsimp only at hpt
    have hpe : progE l = 121 := by unfold progE; rw [heq]
    have hpa : progA l = l.length := by unfold progA; rw [heq]; rfl
    have HPT := Lib.hid hpt
    rw [hpe, hpa]
    clear hpt heq hcl hpe hpa
    go_wp2_with (go_at_call 12; (with_reducible refine Calls.mono HPT.out ?_); rintro e w5 ⟨v, es2, vt2, ve2, rfl, hA2, hs2, hv2, hnil⟩; obtain rfl : v = .slice none 0 0 := (by rcases hnil with ⟨-, h⟩ | h; (exact absurd h (by decide)); exact h); have HR2 := Lib.hid (HH.out.outs hs2); clear hA2 hs2 hv2 hnil)
    go_ret
    exact ⟨rfl, HB3.out.trans (HR2.out.2.1.mono HB3.out.size)⟩
end Go.Proofs.YtmjbpgnjgblnmaaGreat
namespace Go.Proofs.YtmjbpgnjgblnmaaGreat
open Go.RowKit Go.ChangeShapes Go.Deep Go.Proofs.YtmjbpgnjgblnmaaGreatW.PrintWords Go.Proofs.YtmjbpgnjgblnmaaGreatW.PrintLast Go.Proofs.YtmjbpgnjgblnmaaGreatW.PrintMore
section
variable {H : Type} {enc : TypeId × Value → H} {W : World} {base : Nat} {spare : Nat → Bool} {held : Bool}
set_option maxRecDepth 100000 in
theorem place_open {fuel : Nat} {cs : List Value} {x : DataW H × List MemPlace} (h : DataW.trod enc Tryz.prog W base spare held fuel 26 cs = some x) : ∃ p : PSyntaxEvents.S26, cs = [.int .i64 p.f0, .int .i64 p.f1, .int .i64 p.f2] := by
 obtain ⟨xs, n, _, _, hl, hx, hf⟩ := DataW.trod_struct Tryz.underlying26 h
 have hc : Tryz.prog.cellsOf 26 = 3 := by kernel_rfl
 have hci : Tryz.prog.cellsOf 3 = 1 := by kernel_rfl
 rw [hc] at hl
 have g0 := hf 0 ⟨"At", 3, 0, false, "", "", 0⟩ rfl
 have g1 := hf 1 ⟨"Line", 3, 1, false, "", "", 8⟩ rfl
 have g2 := hf 2 ⟨"Column", 3, 2, false, "", "", 16⟩ rfl
 match cs, hl, xs, hx with
 | [c0, c1, c2], _, [x0, x1, x2], _ =>
  dsimp only at g0 g1 g2
  rw [hci] at g0 g1 g2
  obtain ⟨z0, e0, _⟩ := DataW.trod_int Tryz.underlying3 g0
  obtain ⟨z1, e1, _⟩ := DataW.trod_int Tryz.underlying3 g1
  obtain ⟨z2, e2, _⟩ := DataW.trod_int Tryz.underlying3 g2
  simp at e0 e1 e2
  subst e0 e1 e2
  exact ⟨⟨z0, z1, z2⟩, rfl⟩
set_option maxRecDepth 100000 in
theorem tok_open {fuel : Nat} {cs : List Value} {x : DataW H × List MemPlace} (h : DataW.trod enc Tryz.prog W base spare held fuel 28 cs = some x) : ∃ t : Tk, cs = tkCells t := by
 obtain ⟨xs, n, _, _, hl, hx, hf⟩ := DataW.trod_struct Tryz.underlying28 h
 have hc : Tryz.prog.cellsOf 28 = 6 := by kernel_rfl
 have hcp : Tryz.prog.cellsOf 26 = 3 := by kernel_rfl
 have hci : Tryz.prog.cellsOf 3 = 1 := by kernel_rfl
 have hck : Tryz.prog.cellsOf 24 = 1 := by kernel_rfl
 have hcs : Tryz.prog.cellsOf 9 = 1 := by kernel_rfl
 rw [hc] at hl
 have g0 := hf 0 ⟨"Kind", 24, 0, false, "", "", 0⟩ rfl
 have g1 := hf 1 ⟨"Text", 9, 1, false, "", "", 8⟩ rfl
 have g2 := hf 2 ⟨"Place", 26, 2, false, "", "", 24⟩ rfl
 have g3 := hf 3 ⟨"Feeds", 3, 5, false, "", "", 48⟩ rfl
 match cs, hl, xs, hx with
 | [c0, c1, c2, c3, c4, c5], _, [x0, x1, x2, x3], _ =>
  dsimp only at g0 g1 g2 g3
  rw [hck] at g0
  rw [hcs] at g1
  rw [hcp] at g2
  rw [hci] at g3
  obtain ⟨z0, e0, _⟩ := DataW.trod_int Tryz.underlying24 g0
  obtain ⟨z1, e1, _⟩ := DataW.trod_string Tryz.underlying9 g1
  obtain ⟨p, e2⟩ := place_open g2
  obtain ⟨z3, e3, _⟩ := DataW.trod_int Tryz.underlying3 g3
  simp at e0 e1 e2 e3
  obtain ⟨e4, e5, e6⟩ := e2
  subst e0 e1 e3 e4 e5 e6
  exact ⟨⟨z0, z1, p, z3⟩, rfl⟩
theorem addr_add2 (a : Addr) (i j : Nat) : (a.add i).add j = a.add (i + j) := by
 unfold Addr.add
 by_cases hi : i = 0
 ·subst hi; simp
 ·by_cases hj : j = 0
  ·subst hj; simp
  ·simp [hi, hj, Nat.add_assoc]
theorem row_open {α : Type} {k : Kd α} (d0 : α) {e T : TypeId} (ht : Tryz.prog.underlying T = some (.slice e)) (hsz : Tryz.prog.cellsOf e = k.sz) {n fuel : Nat} (hn : fuel ≤ n + 1) (ih : ∀ m, m ≤ n → ∀ cs x, DataW.trod enc Tryz.prog W base spare held m e cs = some x → ∃ y : α, k.K W y cs)
  {cs : List Value} {x : DataW H × List MemPlace} (h : DataW.trod enc Tryz.prog W base spare held fuel T cs = some x) : ∃ (A : Option Addr) (l : List α) (c : Nat), cs = [.slice A l.length c] ∧ l.length ≤ c ∧ Kd.C k W A l.length l := by
 rcases DataW.trod_slice ht h with ⟨rfl, _⟩ | ⟨a, len, cap, elems, rest, m, hm, rfl, _, _, hl, hc, hlen, hel, _, _⟩
 ·exact ⟨none, [], 0, rfl, Nat.le_refl _, ⟨rfl, by simp, fun h => absurd h (by simp)⟩⟩
 ·have hy : ∀ i, ∃ y : α, i < len → ∃ c : List Value, c.length = k.sz ∧ k.K W y c ∧ ∀ j u, c[j]? = some u → W.cell? (a.add (i * k.sz + j)) = some u := by
   intro i
   by_cases hi : i < len
   ·have h1 := hel i hi
    rw [List.getElem?_eq_getElem (by omega)] at h1
    obtain ⟨cs', hcs, htr⟩ := Option.bind_eq_some_iff.1 h1
    obtain ⟨y, hy⟩ := ih m (by omega) cs' _ htr
    obtain ⟨_, hcl, hcell⟩ := World.cells?_some hcs
    refine ⟨y, fun _ => ⟨cs', by rw [hcl, hsz], hy, fun j u hu => ?_⟩⟩
    have hj : j < Tryz.prog.cellsOf e := by rw [← hcl]; exact (List.getElem?_eq_some_iff.1 hu).1
    have := hcell j hj
    rw [hu] at this
    rw [← this, hsz, addr_add2]
   ·exact ⟨d0, fun h => absurd h hi⟩
  obtain ⟨f, hf⟩ := (⟨fun i => (hy i).choose, fun i => (hy i).choose_spec⟩ : ∃ f : Nat → α, ∀ i, i < len → ∃ c : List Value, c.length = k.sz ∧ k.K W (f i) c ∧ ∀ j u, c[j]? = some u → W.cell? (a.add (i * k.sz + j)) = some u)
  refine ⟨some a, (List.range len).map f, cap, by simp, by simpa using hl, ⟨rfl, ?_, fun _ => ⟨a, rfl, fun j p hp => ?_⟩⟩⟩
  ·have : maxLen ≤ 9223372036854775807 := by decide
   simp
   omega
  ·rw [List.getElem?_map] at hp
   obtain ⟨i, hi, rfl⟩ := Option.map_eq_some_iff.1 hp
   obtain ⟨hlt, he⟩ := List.getElem?_eq_some_iff.1 hi
   rw [List.getElem_range] at he
   subst he
   exact hf j (by simpa using hlt)
theorem toks_arg {A : Option Addr} {n c : Nat} {d : DataW H} {ps : List MemPlace} (h : DataW.Trod enc Tryz.prog W base spare held 22 (.slice A n c) d ps) : ∃ l : List Tk, l.length = n ∧ n ≤ c ∧ Kd.C kTk W A n l := by
 obtain ⟨fuel, hf⟩ := h
 obtain ⟨A', l, c', e, hlc, hC⟩ := row_open (k := kTk) noTk Tryz.underlying22 (by kernel_rfl) (n := fuel) (by omega) (fun m _ cs x h => by
  obtain ⟨t, rfl⟩ := tok_open h
  exact ⟨t, PSyntaxEvents.k28_mk W t⟩) hf
 simp [Value.cells] at e
 obtain ⟨rfl, rfl, rfl⟩ := e
 exact ⟨l, rfl, hlc, hC⟩
theorem laidOut0 : laidOutB Tryz.prog = true := by kernel_rfl
end
end Go.Proofs.YtmjbpgnjgblnmaaGreat
namespace Go.Proofs.YtmjbpgnjgblnmaaGreat
open Go.RowKit Go.Proofs.YtmjbpgnjgblnmaaGreatW.PrintWords Go.Proofs.YtmjbpgnjgblnmaaGreatW.PrintLast Go.Proofs.YtmjbpgnjgblnmaaGreatW.PrintMore
set_option maxRecDepth 100000 in
theorem events_big (A : Option Addr) (n c : Nat) (w : World) (h : 4194304 < n) : Calls Tryz.prog 4 #[.slice A n c] w fun e w' => e = .returned (.bool true) ∧ Below w.heap.size w w' := by
 have HAW := Lib.hid (awake_any w)
 have g : (4194304 : Int) < (n : Int) := by omega
 clear h
 go_enter Tryz.func4, Tryz.ntmps4
 go_wp2_with (go_at_call 5; (with_reducible refine Calls.mono HAW.out ?_); rintro e w1 ⟨rfl, hb1⟩; have HB1 := Lib.hid hb1; clear hb1)
 go_ret
 exact ⟨rfl, HB1.out⟩
theorem syntaxEvents_walk (A : Option Addr) (n c : Nat) (w : World) (hS : ∃ l : List Tk, l.length = n ∧ n ≤ c ∧ Kd.C kTk w A n l) : Calls Tryz.prog 4 #[.slice A n c] w fun e w' => e = .returned (.bool true) ∧ Below w.heap.size w w' := by
 obtain ⟨l, rfl, hc, hC⟩ := hS
 rcases Nat.lt_or_ge 4194304 l.length with h | h
 ·exact events_big A l.length c w h
 ·exact events_law A c l w hC h
end Go.Proofs.YtmjbpgnjgblnmaaGreat
namespace Go.Proofs.YtmjbpgnjgblnmaaGreat.syntaxEvents
open Go.ChangeShapes Go.WideShapes Go.ChangeAt Go.RowKit
open Go.ChangeMaps (open_string shut_string)
theorem own : ownKnob Tryz.prog.godebug = none := by kernel_rfl
set_option maxRecDepth 100000 in
theorem lifted (os : Os) (started : os.Started) (H : Type) (enc : TypeId × Value → H) :
  ReturnsInHanded {} Tryz.checked os 4 .any (Rows.syntaxEventsSpec.pre6 enc Tryz.prog Tryz.f4 Rows.syntaxEventsRow.domain false) (Rows.syntaxEventsSpec.post enc Tryz.prog Tryz.f4 false true false false) := by
 refine returnsInHanded_of_change_sized (C := Tryz.checked) own started (by kernel_rfl) Tryz.func4
  (ChangeSpec.witness6 (enc := enc) (C := Tryz.checked) false ⟨#[], #[.slice none 0 0], []⟩ 8 (by kernel_rfl) (by kernel_rfl) (by kernel_rfl) (by kernel_rfl)) ?_
 intro W base args ds gs before hval hW _ hsz _
 have hW' := hW
 obtain ⟨p, q, hA0, hV, rfl, hfz, hnd⟩ := hW
 have hA : DataW.TrodAll enc Tryz.prog W 0 (fun _ => true) true Tryz.f4.params.toList args.toList ds p := hA0
 rw [Tryz.params4] at hA hval
 obtain ⟨v0, vs0, d0, ds0, p0, q0, hargs, rfl, rfl, h0, r0⟩ := trodAll_cons hA
 obtain ⟨rfl, rfl, rfl⟩ := trodAll_nil r0
 obtain rfl : args = #[v0] := by cases args; simp_all
 obtain ⟨rfl, rfl⟩ := trodVars_none hV
 clear hA0
 obtain ⟨a0, len0, cap0, rfl⟩ := okWide_slice Tryz.underlying22 (hval 0 22 v0 rfl rfl)
 have h0k := h0
 have hlt0 : ∀ x ∈ p0, x.block < W.heap.size := fun x hx => hW'.lt x (by simp [hx])
 have hS0 := toks_arg h0
 simp only [List.append_nil] at hW'
 refine (syntaxEvents_walk a0 len0 cap0 W hS0).mono fun e W' ⟨he, hb⟩ => ?_
 subst he
 exact ⟨_, rfl, _, _, _, [], _, [], hW', trodAll_mk1 (shut_bool Tryz.underlying4 _), (trodAll_cons_mk (Below.trod laidOut0 (by kernel_rfl) (of_decide_eq_true (by kernel_rfl)) h0k hb hlt0) trodAll_mk0), rfl, hb.frame _, fun h => by cases h⟩
theorem over : Rows.syntaxEventsRow.holds Tryz.pinned (OpenSpec.ofChange Rows.syntaxEventsSpec) :=
 OpenClaim.holds_of_wide 4 Tryz.f4 rfl rfl rfl rfl rfl rfl rfl ⟨rfl, rfl, rfl, rfl, rfl⟩ rfl rfl rfl rfl rfl (by kernel_rfl) Tryz.func4 (by kernel_rfl)
  (of_decide_eq_true (by kernel_rfl)) (by unfold Func.isWrapper; first | (rw [if_pos (by decide +kernel)]; kernel_rfl) | (rw [if_neg (by decide +kernel)]; exact ⟨rfl, rfl⟩))
  (fun os started H enc _ => lifted os started H enc)
end Go.Proofs.YtmjbpgnjgblnmaaGreat.syntaxEvents
namespace Go.Proofs.YtmjbpgnjgblnmaaGreat
theorem syntaxEvents_holds : Rows.SyntaxEventsSaid := syntaxEvents.over
end Go.Proofs.YtmjbpgnjgblnmaaGreat
namespace Go.Proofs.YtmjbpgnjgblnmaaGreat
#print axioms syntaxEvents_holds
end Go.Proofs.YtmjbpgnjgblnmaaGreat
