/- What the claim stands on: part Jg. -/
import Derived.Test.YtfefldkljbbbpaaJd
import Derived.Test.YtfefldkljbbbpaaJe
import Derived.Test.YtfefldkljbbbpaaJf
import Derived.Test.YtfefldkljbbbpaaJc
set_option linter.unusedVariables false
set_option linter.unusedSimpArgs false
namespace Go.Proofs.Ytfefldkljbbbpaa
open Go.RowKit Go.Shelf Go.Proofs.YtfefldkljbbbpaaW.PrintWords Go.Proofs.YtfefldkljbbbpaaW.PrintLast Go.Proofs.YtfefldkljbbbpaaW.PrintMore
set_option maxRecDepth 100000 in
set_option maxHeartbeats 1000000 in
theorem awake13 (w : World) : Calls Try.prog 8 #[] w fun e w' => e = .returned (.bool true) ∧ Below w.heap.size w w' := by
  go_enter Try.func8, Try.ntmps8
  go_upto_region 3 with (fail)
  obtain ⟨W2, hW2⟩ : ∃ V, (w.alloc (.cells #[.int .u8 2, .string ⟨#[115, 107, 105, 112]⟩, .int .i64 0, .int .i64 0, .int .i64 0, .int .i64 0] 30)).alloc (.cells #[.int .u8 1, .int .u8 13, .int .u8 0, .string ⟨#[]⟩, .int .i64 0, .int .i64 0, .int .i64 0, .int .i64 0, .int .u8 2, .int .u8 0, .int .u8 2, .string ⟨#[115, 107, 105, 112]⟩, .int .i64 0, .int .i64 0, .int .i64 0, .int .i64 0, .int .u8 3, .int .u8 13, .int .u8 0, .string ⟨#[]⟩, .int .i64 0, .int .i64 0, .int .i64 0, .int .i64 0] 32) = V := ⟨_, rfl⟩
  have hz2 : W2.heap.size = w.heap.size + 2 := by rw [← hW2]; simp
  have hh2 : W2.heap[w.heap.size + 1]? = some (.cells #[.int .u8 1, .int .u8 13, .int .u8 0, .string ⟨#[]⟩, .int .i64 0, .int .i64 0, .int .i64 0, .int .i64 0, .int .u8 2, .int .u8 0, .int .u8 2, .string ⟨#[115, 107, 105, 112]⟩, .int .i64 0, .int .i64 0, .int .i64 0, .int .i64 0, .int .u8 3, .int .u8 13, .int .u8 0, .string ⟨#[]⟩, .int .i64 0, .int .i64 0, .int .i64 0, .int .i64 0] 32) := by
    rw [← hW2]
    have := World.alloc_heap_new (w.alloc (.cells #[.int .u8 2, .string ⟨#[115, 107, 105, 112]⟩, .int .i64 0, .int .i64 0, .int .i64 0, .int .i64 0] 30)) (.cells #[.int .u8 1, .int .u8 13, .int .u8 0, .string ⟨#[]⟩, .int .i64 0, .int .i64 0, .int .i64 0, .int .i64 0, .int .u8 2, .int .u8 0, .int .u8 2, .string ⟨#[115, 107, 105, 112]⟩, .int .i64 0, .int .i64 0, .int .i64 0, .int .i64 0, .int .u8 3, .int .u8 13, .int .u8 0, .string ⟨#[]⟩, .int .i64 0, .int .i64 0, .int .i64 0, .int .i64 0] 32)
    rwa [World.size_alloc] at this
  have hh1 : W2.heap[w.heap.size]? = some (.cells #[.int .u8 2, .string ⟨#[115, 107, 105, 112]⟩, .int .i64 0, .int .i64 0, .int .i64 0, .int .i64 0] 30) := by
    rw [← hW2]
    exact (Below.heap_alloc _ _ _ (by simp)).trans (World.alloc_heap_new w _)
  have hb2 : Below w.heap.size w W2 := by rw [← hW2]; exact ((Below.refl _ w).alloc (Nat.le_refl _) _).alloc (by simp) _
  have hr2 : Kd.C kEv W2 (some ⟨w.heap.size + 1, 0, none⟩) 3 skipL := ev_row (xs := skipL) hh2 rfl (by decide)
  have HBU := Lib.hid (build_any (some ⟨w.heap.size + 1, 0, none⟩) 3 3 skipL W2 hr2 rfl (by decide))
  have HH1 := Lib.hid hh1
  have HH2 := Lib.hid hh2
  have HB2 := Lib.hid hb2
  have HR2 := Lib.hid hr2
  have HZ2 := Lib.hid hz2
  rw [hW2]
  clear hW2 hz2 hh1 hh2 hb2 hr2
  go_upto_region 4 with (go_at_call 9; refine (HBU.out).mono ?_; rintro e w3 ⟨v3, rfl, ho3, hb3⟩; rw [skip_bld] at ho3 ⊢; obtain ⟨A3, c3, rfl, hc3, hk3⟩ := ownS_C ho3; have HO3 := Lib.hid ho3; have HK3 := Lib.hid (And.intro hc3 hk3); have HB3 := Lib.hid hb3; clear ho3 hb3 hc3 hk3; dsimp only [skipN, noTk])
  obtain ⟨W3, hW3⟩ : ∃ V, w3.alloc (.cells #[.int .u8 13, .int .u8 0, .string ⟨#[]⟩, .int .i64 0, .int .i64 0, .int .i64 0, .int .i64 0, .slice A3 1 c3] TN) = V := ⟨_, rfl⟩
  have hz3 : W3.heap.size = w3.heap.size + 1 := by rw [← hW3, World.size_alloc]
  have h3 : W3.heap[w3.heap.size]? = some (.cells #[.int .u8 13, .int .u8 0, .string ⟨#[]⟩, .int .i64 0, .int .i64 0, .int .i64 0, .int .i64 0, .slice A3 1 c3] TN) := by rw [← hW3]; exact World.alloc_heap_new _ _
  have hb3a : Below w3.heap.size w3 W3 := by rw [← hW3]; exact (Below.refl _ w3).alloc (Nat.le_refl _) _
  have hb3 : Below W2.heap.size W2 W3 := HB3.out.trans (hb3a.mono HB3.out.size)
  have hk3 : Kd.C kNd W3 A3 1 skipN.f2 := Kd.C_below (n := 1) HK3.out.2 hb3a
  have HEV := Lib.hid (events_any skipN A3 1 c3 W3 rfl HK3.out.1 hk3 (by rw [skip_nds]; decide))
  have HC3 := Lib.hid hk3
  have HBC := Lib.hid hb3
  have HX3 := Lib.hid h3
  have HZ3 := Lib.hid hz3
  obtain ⟨x0, x1, x2, x3, x4, x5, x6, x7⟩ : W3.cell? ⟨w3.heap.size, 0, none⟩ = some (.int .u8 13) ∧ W3.cell? ⟨w3.heap.size, 1, none⟩ = some (.int .u8 0) ∧ W3.cell? ⟨w3.heap.size, 2, none⟩ = some (.string ⟨#[]⟩) ∧ W3.cell? ⟨w3.heap.size, 3, none⟩ = some (.int .i64 0) ∧ W3.cell? ⟨w3.heap.size, 4, none⟩ = some (.int .i64 0) ∧ W3.cell? ⟨w3.heap.size, 5, none⟩ = some (.int .i64 0) ∧ W3.cell? ⟨w3.heap.size, 6, none⟩ = some (.int .i64 0) ∧ W3.cell? ⟨w3.heap.size, 7, none⟩ = some (.slice A3 1 c3) := ⟨cell_of_row _ _ _ _ _ _ h3, cell_of_row _ _ _ _ _ _ h3, cell_of_row _ _ _ _ _ _ h3, cell_of_row _ _ _ _ _ _ h3, cell_of_row _ _ _ _ _ _ h3, cell_of_row _ _ _ _ _ _ h3, cell_of_row _ _ _ _ _ _ h3, cell_of_row _ _ _ _ _ _ h3⟩
  rw [hW3]
  clear hW3 hz3 h3 hb3a hb3 hk3
  go_upto_region 5 with (go_at_call 19; refine (HEV.out).mono ?_; rintro e w4 ⟨v4, rfl, hr4, hb4⟩; rw [skip_tells] at hr4; obtain ⟨A4, c4, rfl, hc4, hC4⟩ := Kd.R_reads hr4; have HC4 := Lib.hid (And.intro hc4 hC4); have HB4 := Lib.hid hb4; clear hr4 hb4 hc4 hC4)
  obtain ⟨ks, rs, hks, hrs⟩ := same_f skipL skipL (by decide)
  obtain rfl : rs = true := hrs.2 rfl
  have hr4 : Kd.C kEv w4 (some ⟨w.heap.size + 1, 0, none⟩) skipL.length skipL := Kd.C_below (Kd.C_below (n := 3) HR2.out HBC.out) HB4.out
  have HSM := Lib.hid (PTreeSame.colophonlaw13_same.calls ks A4 c4 skipL (some ⟨w.heap.size + 1, 0, none⟩) 3 skipL true w4 HC4.out.2 HC4.out.1 hr4 (by decide) hks)
  clear hks hrs hr4 x0 x1 x2 x3 x4 x5 x6 x7
  go_upto_region 6 with (go_at_call 13; refine (HSM.out).mono ?_; rintro e w5 ⟨rfl, hd5⟩; have HD5 := Lib.hid hd5; clear hd5)
  have hr5 : Kd.C kEv w5 (some ⟨w.heap.size + 1, 0, none⟩) (skipL.take 2).length (skipL.take 2) := Kd.C_take (Kd.C_below (Kd.C_below (Kd.C_below (n := 3) HR2.out HBC.out) HB4.out) HD5.out.below) (by decide)
  have HBV := Lib.hid (build_any (some ⟨w.heap.size + 1, 0, none⟩) 2 3 (skipL.take 2) w5 hr5 rfl (by decide))
  clear hr5
  go_upto_region 7 with (go_at_call 9; refine (HBV.out).mono ?_; rintro e w6 ⟨v6, rfl, ho6, hb6⟩; rw [skip_bld2] at ho6 ⊢; obtain ⟨A6, c6, rfl, hc6, hk6⟩ := ownS_C ho6; have HB6 := Lib.hid hb6; clear ho6 hb6 hc6 hk6; dsimp only [noNd, noTk])
  obtain ⟨ad, A1, c1, rfl, hcs, hl1, hC1⟩ := kid_at (l := skipN.f2) HC3.out 0 ⟨0, skipT, []⟩ (by decide) rfl
  obtain ⟨W7, hW7⟩ : ∃ V, w6.alloc (.cells #[.int .u8 0, .int .u8 0, .string ⟨#[]⟩, .int .i64 0, .int .i64 0, .int .i64 0, .int .i64 0, .slice A6 0 c6] TN) = V := ⟨_, rfl⟩
  have h7 : W7.heap[w6.heap.size]? = some (.cells #[.int .u8 0, .int .u8 0, .string ⟨#[]⟩, .int .i64 0, .int .i64 0, .int .i64 0, .int .i64 0, .slice A6 0 c6] TN) := by rw [← hW7]; exact World.alloc_heap_new _ _
  have hb7 : Below w6.heap.size w6 W7 := by rw [← hW7]; exact (Below.refl _ w6).alloc (Nat.le_refl _) _
  have hb35 : Below W3.heap.size W3 w5 := HB4.out.trans (HD5.out.below.mono HB4.out.size)
  have hb37 : Below W3.heap.size W3 W7 := hb35.trans ((HB6.out.trans (hb7.mono HB6.out.size)).mono hb35.size)
  have hb27 : Below W2.heap.size W2 W7 := HBC.out.trans (hb37.mono HBC.out.size)
  have hcs' := hcs
  simp only [Addr.add, Nat.zero_mul, Nat.add_zero] at hcs'
  obtain ⟨_, e1, e2, e3, e4, e5, e6, _⟩ := hcs'
  have hSall : ∀ V, Below W7.heap.size W7 V → V.cell? ⟨w3.heap.size, 0, none⟩ = some (.int .u8 13) ∧ V.cell? ⟨w3.heap.size, 1, none⟩ = some (.int .u8 0) ∧ V.cell? ⟨w3.heap.size, 2, none⟩ = some (.string ⟨#[]⟩) ∧ V.cell? ⟨w3.heap.size, 3, none⟩ = some (.int .i64 0) ∧ V.cell? ⟨w3.heap.size, 4, none⟩ = some (.int .i64 0) ∧ V.cell? ⟨w3.heap.size, 5, none⟩ = some (.int .i64 0) ∧ V.cell? ⟨w3.heap.size, 6, none⟩ = some (.int .i64 0) ∧ V.cell? ⟨w3.heap.size, 7, none⟩ = some (.slice (some ad) 1 c3) ∧ V.cell? ⟨w6.heap.size, 0, none⟩ = some (.int .u8 0) ∧ V.cell? ⟨w6.heap.size, 7, none⟩ = some (.slice A6 0 c6) ∧ V.cell? ⟨w.heap.size, 0, none⟩ = some (.int .u8 2) ∧ V.cell? ⟨w.heap.size, 1, none⟩ = some (.string ⟨#[115, 107, 105, 112]⟩) ∧ V.cell? ⟨w.heap.size, 2, none⟩ = some (.int .i64 0) ∧ V.cell? ⟨w.heap.size, 3, none⟩ = some (.int .i64 0) ∧ V.cell? ⟨w.heap.size, 4, none⟩ = some (.int .i64 0) ∧ V.cell? ⟨w.heap.size, 5, none⟩ = some (.int .i64 0) ∧ V.cell? ⟨ad.block, ad.off + 1, none⟩ = some (.int .u8 2) ∧ V.cell? ⟨ad.block, ad.off + 2, none⟩ = some (.string ⟨#[115, 107, 105, 112]⟩) ∧ V.cell? ⟨ad.block, ad.off + 3, none⟩ = some (.int .i64 0) ∧ V.cell? ⟨ad.block, ad.off + 4, none⟩ = some (.int .i64 0) ∧ V.cell? ⟨ad.block, ad.off + 5, none⟩ = some (.int .i64 0) ∧ V.cell? ⟨ad.block, ad.off + 6, none⟩ = some (.int .i64 0) := fun V hV => ⟨pw_cell_below hV (pw_cell_below hb37 (cell_of_row _ _ _ _ _ _ HX3.out)), pw_cell_below hV (pw_cell_below hb37 (cell_of_row _ _ _ _ _ _ HX3.out)), pw_cell_below hV (pw_cell_below hb37 (cell_of_row _ _ _ _ _ _ HX3.out)), pw_cell_below hV (pw_cell_below hb37 (cell_of_row _ _ _ _ _ _ HX3.out)), pw_cell_below hV (pw_cell_below hb37 (cell_of_row _ _ _ _ _ _ HX3.out)), pw_cell_below hV (pw_cell_below hb37 (cell_of_row _ _ _ _ _ _ HX3.out)), pw_cell_below hV (pw_cell_below hb37 (cell_of_row _ _ _ _ _ _ HX3.out)), pw_cell_below hV (pw_cell_below hb37 (cell_of_row _ _ _ _ _ _ HX3.out)), pw_cell_below hV (cell_of_row _ _ _ _ _ _ h7), pw_cell_below hV (cell_of_row _ _ _ _ _ _ h7), pw_cell_below hV (pw_cell_below hb27 (cell_of_row _ _ _ _ _ _ HH1.out)), pw_cell_below hV (pw_cell_below hb27 (cell_of_row _ _ _ _ _ _ HH1.out)), pw_cell_below hV (pw_cell_below hb27 (cell_of_row _ _ _ _ _ _ HH1.out)), pw_cell_below hV (pw_cell_below hb27 (cell_of_row _ _ _ _ _ _ HH1.out)), pw_cell_below hV (pw_cell_below hb27 (cell_of_row _ _ _ _ _ _ HH1.out)), pw_cell_below hV (pw_cell_below hb27 (cell_of_row _ _ _ _ _ _ HH1.out)), pw_cell_below hV (pw_cell_below hb37 e1), pw_cell_below hV (pw_cell_below hb37 e2), pw_cell_below hV (pw_cell_below hb37 e3), pw_cell_below hV (pw_cell_below hb37 e4), pw_cell_below hV (pw_cell_below hb37 e5), pw_cell_below hV (pw_cell_below hb37 e6)⟩
  obtain ⟨kd, hkd⟩ := depth_f 2 skipN (by rw [skip_nds]; decide) (by rw [skip_nds]; decide)
  rw [skip_dep] at hkd
  have HC7 : ∀ V, Below W7.heap.size W7 V → Kd.C kNd V (some ad) 1 skipN.f2 := fun V hV => Kd.C_below (Kd.C_below HC3.out hb37) hV
  have hl3 : skipN.f2.length ≤ c3 := HK3.out.1
  have HDP := Lib.hid (fun V (hV : Below W7.heap.size W7 V) => PTreeSame.tree_Depth.calls kd 13 0 ⟨#[]⟩ 0 0 0 0 (some ad) c3 skipN.f2 1 V (HC7 V hV) hl3 hkd)
  have HSN := Lib.hid (fun V (hV : Below W7.heap.size W7 V) => same_any 2 V skipN skipN (some ad) (some ad) c3 c3 (Nat.le_of_eq skip_nds) hl3 hl3 (HC7 V hV) (HC7 V hV) (by rw [skip_nds]; decide) (by rw [skip_nds]; decide))
  have HBW := Lib.hid (HB2.out.trans (hb27.mono HB2.out.size))
  rw [hW7]
  obtain ⟨Wd, hWd⟩ : ∃ V, W7.drew = V := ⟨_, rfl⟩
  have hbd : Below W7.heap.size W7 Wd := by rw [← hWd]; exact (Below.refl _ W7).drew
  have HBD := Lib.hid hbd
  have HSA := Lib.hid hSall
  have HS := Lib.hid (hSall Wd hbd)
  have HWd := Lib.hid hWd
  clear hW7 h7 hb7 hb35 hb37 hb27 hcs hl1 hC1 e1 e2 e3 e4 e5 e6 hSall hkd HC7 hl3 hWd hbd
  refine wp_region_R (fun w' => w'.cell? ⟨w3.heap.size, 0, none⟩ = some (.int .u8 13) ∧ w'.cell? ⟨w3.heap.size, 1, none⟩ = some (.int .u8 0) ∧ w'.cell? ⟨w3.heap.size, 2, none⟩ = some (.string ⟨#[]⟩) ∧ w'.cell? ⟨w3.heap.size, 3, none⟩ = some (.int .i64 0) ∧ w'.cell? ⟨w3.heap.size, 4, none⟩ = some (.int .i64 0) ∧ w'.cell? ⟨w3.heap.size, 5, none⟩ = some (.int .i64 0) ∧ w'.cell? ⟨w3.heap.size, 6, none⟩ = some (.int .i64 0) ∧ w'.cell? ⟨w3.heap.size, 7, none⟩ = some (.slice (some ad) 1 c3) ∧ w'.cell? ⟨w6.heap.size, 0, none⟩ = some (.int .u8 0) ∧ w'.cell? ⟨w6.heap.size, 7, none⟩ = some (.slice A6 0 c6) ∧ w'.cell? ⟨w.heap.size, 0, none⟩ = some (.int .u8 2) ∧ w'.cell? ⟨w.heap.size, 1, none⟩ = some (.string ⟨#[115, 107, 105, 112]⟩) ∧ w'.cell? ⟨w.heap.size, 2, none⟩ = some (.int .i64 0) ∧ w'.cell? ⟨w.heap.size, 3, none⟩ = some (.int .i64 0) ∧ w'.cell? ⟨w.heap.size, 4, none⟩ = some (.int .i64 0) ∧ w'.cell? ⟨w.heap.size, 5, none⟩ = some (.int .i64 0) ∧ w'.cell? ⟨ad.block, ad.off + 1, none⟩ = some (.int .u8 2) ∧ w'.cell? ⟨ad.block, ad.off + 2, none⟩ = some (.string ⟨#[115, 107, 105, 112]⟩) ∧ w'.cell? ⟨ad.block, ad.off + 3, none⟩ = some (.int .i64 0) ∧ w'.cell? ⟨ad.block, ad.off + 4, none⟩ = some (.int .i64 0) ∧ w'.cell? ⟨ad.block, ad.off + 5, none⟩ = some (.int .i64 0) ∧ w'.cell? ⟨ad.block, ad.off + 6, none⟩ = some (.int .i64 0)) (fun _ => true) (by kernel_rfl) ?_
  rw [HWd.out]
  refine anyR_take (i := 0) (oi := { dst := some 31, op := Go.Op.move (Go.Operand.tmp 6), type := 4, pos := "law.go:92", after := #[], guard := none }) (v := ?_) rfl (by kernel_rfl) (fun _ _ _ h => h) (Or.inl ⟨by rfl, ?_⟩) HS.out ?_
  rotate_left
  · intro w9 hSw; (try dsimp only at hSw); go_simp; try (with_reducible rfl)
  try simp only [Act.put, List.setIfInBounds_toArray, List.set_cons_zero, List.set_cons_succ]
  refine anyR_take (i := 1) (oi := { dst := some 32, op := Go.Op.move (Go.Operand.tmp 31), type := 4, pos := "law.go:92", after := #[{ on := 0, ground := Go.Ground.data }], guard := none }) (v := ?_) rfl (by kernel_rfl) (fun _ _ _ h => h) (Or.inl ⟨by rfl, ?_⟩) HS.out ?_
  rotate_left
  · intro w9 hSw; (try dsimp only at hSw); go_simp; try (with_reducible rfl)
  try simp only [Act.put, List.setIfInBounds_toArray, List.set_cons_zero, List.set_cons_succ]
  refine anyR_take (i := 2) (oi := { dst := some 33, op := Go.Op.move (Go.Operand.tmp 4), type := 36, pos := "law.go:92", after := #[{ on := 1, ground := Go.Ground.guard }], guard := some (1, true) }) (v := ?_) rfl (by kernel_rfl) (fun _ _ _ h => h) (Or.inl ⟨by rfl, ?_⟩) HS.out ?_
  rotate_left
  · intro w9 hSw; (try dsimp only at hSw); go_simp; try (with_reducible rfl)
  try simp only [Act.put, List.setIfInBounds_toArray, List.set_cons_zero, List.set_cons_succ]
  refine anyR_take (i := 3) (oi := { dst := some 34, op := Go.Op.binOp Go.BinOp.eql 36 (Go.Operand.tmp 33) (Go.Operand.const (Go.Value.int Go.IntKind.i64 0)) 36, type := 4, pos := "law.go:92", after := #[{ on := 2, ground := Go.Ground.data }, { on := 1, ground := Go.Ground.guard }], guard := some (1, true) }) (v := ?_) rfl (by kernel_rfl) (fun _ _ _ h => h) (Or.inl ⟨by rfl, ?_⟩) HS.out ?_
  rotate_left
  · intro w9 hSw; (try dsimp only at hSw); go_simp; try (with_reducible rfl)
  try simp only [Act.put, List.setIfInBounds_toArray, List.set_cons_zero, List.set_cons_succ]
  refine anyR_take (i := 4) (oi := { dst := some 35, op := Go.Op.pick (Go.Operand.tmp 32) (Go.Operand.tmp 34) (Go.Operand.const (Go.Value.bool false)), type := 4, pos := "law.go:92", after := #[{ on := 1, ground := Go.Ground.data }, { on := 3, ground := Go.Ground.data }], guard := none }) (v := ?_) rfl (by kernel_rfl) (fun _ _ _ h => h) (Or.inl ⟨by rfl, ?_⟩) HS.out ?_
  rotate_left
  · intro w9 hSw; (try dsimp only at hSw); go_simp; try (with_reducible rfl)
  try simp only [Act.put, List.setIfInBounds_toArray, List.set_cons_zero, List.set_cons_succ]
  refine anyR_take (i := 5) (oi := { dst := some 36, op := Go.Op.move (Go.Operand.tmp 35), type := 4, pos := "law.go:92", after := #[{ on := 4, ground := Go.Ground.data }, { on := 1, ground := Go.Ground.chain }], guard := none }) (v := ?_) rfl (by kernel_rfl) (fun _ _ _ h => h) (Or.inl ⟨by rfl, ?_⟩) HS.out ?_
  rotate_left
  · intro w9 hSw; (try dsimp only at hSw); go_simp; try (with_reducible rfl)
  try simp only [Act.put, List.setIfInBounds_toArray, List.set_cons_zero, List.set_cons_succ]
  refine anyR_take (i := 6) (oi := { dst := some 37, op := Go.Op.fieldAddr 35 (Go.Operand.tmp 3) 0, type := 0, pos := "law.go:92", after := #[{ on := 5, ground := Go.Ground.guard }], guard := some (5, true) }) (v := ?_) rfl (by kernel_rfl) (fun _ _ _ h => h) (Or.inl ⟨by rfl, ?_⟩) HS.out ?_
  rotate_left
  · intro w9 hSw; (try dsimp only at hSw); go_simp; try (with_reducible rfl)
  try simp only [Act.put, List.setIfInBounds_toArray, List.set_cons_zero, List.set_cons_succ]
  refine anyR_take (i := 7) (oi := { dst := some 38, op := Go.Op.load 25 (Go.Operand.tmp 37), type := 25, pos := "law.go:92", after := #[{ on := 6, ground := Go.Ground.data }, { on := 5, ground := Go.Ground.guard }], guard := some (5, true) }) (v := ?_) rfl (by kernel_rfl) (fun _ _ _ h => h) (Or.inl ⟨by rfl, ?_⟩) HS.out ?_
  rotate_left
  · intro w9 hSw; (try dsimp only at hSw); go_simp; try (with_reducible rfl)
  try simp only [Act.put, List.setIfInBounds_toArray, List.set_cons_zero, List.set_cons_succ]
  refine anyR_take (i := 8) (oi := { dst := some 39, op := Go.Op.binOp Go.BinOp.eql 25 (Go.Operand.tmp 38) (Go.Operand.const (Go.Value.int Go.IntKind.u8 13)) 25, type := 4, pos := "law.go:92", after := #[{ on := 7, ground := Go.Ground.data }, { on := 5, ground := Go.Ground.guard }], guard := some (5, true) }) (v := ?_) rfl (by kernel_rfl) (fun _ _ _ h => h) (Or.inl ⟨by rfl, ?_⟩) HS.out ?_
  rotate_left
  · intro w9 hSw; (try dsimp only at hSw); go_simp; try (with_reducible rfl)
  try simp only [Act.put, List.setIfInBounds_toArray, List.set_cons_zero, List.set_cons_succ]
  refine anyR_take (i := 9) (oi := { dst := some 40, op := Go.Op.pick (Go.Operand.tmp 36) (Go.Operand.tmp 39) (Go.Operand.const (Go.Value.bool false)), type := 4, pos := "law.go:92", after := #[{ on := 5, ground := Go.Ground.data }, { on := 8, ground := Go.Ground.data }], guard := none }) (v := ?_) rfl (by kernel_rfl) (fun _ _ _ h => h) (Or.inl ⟨by rfl, ?_⟩) HS.out ?_
  rotate_left
  · intro w9 hSw; (try dsimp only at hSw); go_simp; try (with_reducible rfl)
  try simp only [Act.put, List.setIfInBounds_toArray, List.set_cons_zero, List.set_cons_succ]
  refine anyR_take (i := 10) (oi := { dst := some 41, op := Go.Op.move (Go.Operand.tmp 40), type := 4, pos := "law.go:92", after := #[{ on := 9, ground := Go.Ground.data }, { on := 5, ground := Go.Ground.chain }], guard := none }) (v := ?_) rfl (by kernel_rfl) (fun _ _ _ h => h) (Or.inl ⟨by rfl, ?_⟩) HS.out ?_
  rotate_left
  · intro w9 hSw; (try dsimp only at hSw); go_simp; try (with_reducible rfl)
  try simp only [Act.put, List.setIfInBounds_toArray, List.set_cons_zero, List.set_cons_succ]
  refine anyR_take (i := 11) (oi := { dst := some 42, op := Go.Op.fieldAddr 35 (Go.Operand.tmp 3) 2, type := 0, pos := "law.go:92", after := #[{ on := 10, ground := Go.Ground.guard }], guard := some (10, true) }) (v := ?_) rfl (by kernel_rfl) (fun _ _ _ h => h) (Or.inl ⟨by rfl, ?_⟩) HS.out ?_
  rotate_left
  · intro w9 hSw; (try dsimp only at hSw); go_simp; try (with_reducible rfl)
  try simp only [Act.put, List.setIfInBounds_toArray, List.set_cons_zero, List.set_cons_succ]
  refine anyR_take (i := 12) (oi := { dst := some 43, op := Go.Op.load 33 (Go.Operand.tmp 42), type := 33, pos := "law.go:92", after := #[{ on := 11, ground := Go.Ground.data }, { on := 10, ground := Go.Ground.guard }], guard := some (10, true) }) (v := ?_) rfl (by kernel_rfl) (fun _ _ _ h => h) (Or.inl ⟨by rfl, ?_⟩) HS.out ?_
  rotate_left
  · intro w9 hSw; (try dsimp only at hSw); go_simp; try (with_reducible rfl)
  try simp only [Act.put, List.setIfInBounds_toArray, List.set_cons_zero, List.set_cons_succ]
  refine anyR_take (i := 13) (oi := { dst := some 44, op := Go.Op.call { callee := Go.Callee.builtin Go.Builtin.len, args := #[Go.Operand.tmp 43], argTypes := #[33] }, type := 3, pos := "law.go:92", after := #[{ on := 12, ground := Go.Ground.data }, { on := 10, ground := Go.Ground.guard }], guard := some (10, true) }) (v := ?_) rfl (by kernel_rfl) (fun _ _ _ h => h) (Or.inl ⟨by rfl, ?_⟩) HS.out ?_
  rotate_left
  · intro w9 hSw; (try dsimp only at hSw); go_simp; try (with_reducible rfl)
  try simp only [Act.put, List.setIfInBounds_toArray, List.set_cons_zero, List.set_cons_succ]
  refine anyR_take (i := 14) (oi := { dst := some 45, op := Go.Op.binOp Go.BinOp.eql 3 (Go.Operand.tmp 44) (Go.Operand.const (Go.Value.int Go.IntKind.i64 1)) 3, type := 4, pos := "law.go:92", after := #[{ on := 13, ground := Go.Ground.data }, { on := 10, ground := Go.Ground.guard }], guard := some (10, true) }) (v := ?_) rfl (by kernel_rfl) (fun _ _ _ h => h) (Or.inl ⟨by rfl, ?_⟩) HS.out ?_
  rotate_left
  · intro w9 hSw; (try dsimp only at hSw); go_simp; try (with_reducible rfl)
  try simp only [Act.put, List.setIfInBounds_toArray, List.set_cons_zero, List.set_cons_succ]
  refine anyR_take (i := 15) (oi := { dst := some 46, op := Go.Op.pick (Go.Operand.tmp 41) (Go.Operand.tmp 45) (Go.Operand.const (Go.Value.bool false)), type := 4, pos := "law.go:92", after := #[{ on := 10, ground := Go.Ground.data }, { on := 14, ground := Go.Ground.data }], guard := none }) (v := ?_) rfl (by kernel_rfl) (fun _ _ _ h => h) (Or.inl ⟨by rfl, ?_⟩) HS.out ?_
  rotate_left
  · intro w9 hSw; (try dsimp only at hSw); go_simp; try (with_reducible rfl)
  try simp only [Act.put, List.setIfInBounds_toArray, List.set_cons_zero, List.set_cons_succ]
  refine anyR_take (i := 16) (oi := { dst := some 47, op := Go.Op.move (Go.Operand.tmp 46), type := 4, pos := "law.go:92", after := #[{ on := 15, ground := Go.Ground.data }, { on := 10, ground := Go.Ground.chain }], guard := none }) (v := ?_) rfl (by kernel_rfl) (fun _ _ _ h => h) (Or.inl ⟨by rfl, ?_⟩) HS.out ?_
  rotate_left
  · intro w9 hSw; (try dsimp only at hSw); go_simp; try (with_reducible rfl)
  try simp only [Act.put, List.setIfInBounds_toArray, List.set_cons_zero, List.set_cons_succ]
  refine anyR_take (i := 17) (oi := { dst := some 48, op := Go.Op.fieldAddr 35 (Go.Operand.tmp 3) 2, type := 0, pos := "law.go:92", after := #[{ on := 16, ground := Go.Ground.guard }], guard := some (16, true) }) (v := ?_) rfl (by kernel_rfl) (fun _ _ _ h => h) (Or.inl ⟨by rfl, ?_⟩) HS.out ?_
  rotate_left
  · intro w9 hSw; (try dsimp only at hSw); go_simp; try (with_reducible rfl)
  try simp only [Act.put, List.setIfInBounds_toArray, List.set_cons_zero, List.set_cons_succ]
  refine anyR_take (i := 18) (oi := { dst := some 49, op := Go.Op.load 33 (Go.Operand.tmp 48), type := 33, pos := "law.go:92", after := #[{ on := 17, ground := Go.Ground.data }, { on := 16, ground := Go.Ground.guard }], guard := some (16, true) }) (v := ?_) rfl (by kernel_rfl) (fun _ _ _ h => h) (Or.inl ⟨by rfl, ?_⟩) HS.out ?_
  rotate_left
  · intro w9 hSw; (try dsimp only at hSw); go_simp; try (with_reducible rfl)
  try simp only [Act.put, List.setIfInBounds_toArray, List.set_cons_zero, List.set_cons_succ]
  refine anyR_take (i := 19) (oi := { dst := some 50, op := Go.Op.indexAddr 33 (Go.Operand.tmp 49) (Go.Operand.const (Go.Value.int Go.IntKind.i64 0)), type := 0, pos := "law.go:92", after := #[{ on := 18, ground := Go.Ground.data }, { on := 16, ground := Go.Ground.guard }], guard := some (16, true) }) (v := ?_) rfl (by kernel_rfl) (fun _ _ _ h => h) (Or.inl ⟨by rfl, ?_⟩) HS.out ?_
  rotate_left
  · intro w9 hSw; (try dsimp only at hSw); go_simp; try (with_reducible rfl)
  try simp only [Act.put, List.setIfInBounds_toArray, List.set_cons_zero, List.set_cons_succ]
  refine anyR_take (i := 20) (oi := { dst := some 51, op := Go.Op.fieldAddr 35 (Go.Operand.tmp 50) 1, type := 0, pos := "law.go:92", after := #[{ on := 19, ground := Go.Ground.data }, { on := 16, ground := Go.Ground.guard }], guard := some (16, true) }) (v := ?_) rfl (by kernel_rfl) (fun _ _ _ h => h) (Or.inl ⟨by rfl, ?_⟩) HS.out ?_
  rotate_left
  · intro w9 hSw; (try dsimp only at hSw); go_simp; try (with_reducible rfl)
  try simp only [Act.put, List.setIfInBounds_toArray, List.set_cons_zero, List.set_cons_succ]
  refine anyR_take (i := 21) (oi := { dst := some 52, op := Go.Op.load 30 (Go.Operand.tmp 51), type := 30, pos := "law.go:92", after := #[{ on := 20, ground := Go.Ground.data }, { on := 16, ground := Go.Ground.guard }], guard := some (16, true) }) (v := ?_) rfl (by kernel_rfl) (fun _ _ _ h => h) (Or.inl ⟨by rfl, ?_⟩) HS.out ?_
  rotate_left
  · intro w9 hSw; (try dsimp only at hSw); go_simp; try (with_reducible rfl)
  try simp only [Act.put, List.setIfInBounds_toArray, List.set_cons_zero, List.set_cons_succ]
  refine anyR_take (i := 22) (oi := { dst := some 53, op := Go.Op.load 30 (Go.Operand.tmp 1), type := 30, pos := "law.go:92", after := #[{ on := 16, ground := Go.Ground.guard }], guard := some (16, true) }) (v := ?_) rfl (by kernel_rfl) (fun _ _ _ h => h) (Or.inl ⟨by rfl, ?_⟩) HS.out ?_
  rotate_left
  · intro w9 hSw; (try dsimp only at hSw); go_simp; try (with_reducible rfl)
  try simp only [Act.put, List.setIfInBounds_toArray, List.set_cons_zero, List.set_cons_succ]
  refine anyR_take (i := 23) (oi := { dst := some 54, op := Go.Op.binOp Go.BinOp.eql 30 (Go.Operand.tmp 52) (Go.Operand.tmp 53) 30, type := 4, pos := "law.go:92", after := #[{ on := 21, ground := Go.Ground.data }, { on := 22, ground := Go.Ground.data }, { on := 16, ground := Go.Ground.guard }], guard := some (16, true) }) (v := ?_) rfl (by kernel_rfl) (fun _ _ _ h => h) (Or.inl ⟨by rfl, ?_⟩) HS.out ?_
  rotate_left
  · intro w9 hSw; (try dsimp only at hSw); go_simp; try (with_reducible rfl)
  try simp only [Act.put, List.setIfInBounds_toArray, List.set_cons_zero, List.set_cons_succ]
  refine anyR_take (i := 24) (oi := { dst := some 55, op := Go.Op.pick (Go.Operand.tmp 47) (Go.Operand.tmp 54) (Go.Operand.const (Go.Value.bool false)), type := 4, pos := "law.go:92", after := #[{ on := 16, ground := Go.Ground.data }, { on := 23, ground := Go.Ground.data }], guard := none }) (v := ?_) rfl (by kernel_rfl) (fun _ _ _ h => h) (Or.inl ⟨by rfl, ?_⟩) HS.out ?_
  rotate_left
  · intro w9 hSw; (try dsimp only at hSw); go_simp; try (with_reducible rfl)
  try simp only [Act.put, List.setIfInBounds_toArray, List.set_cons_zero, List.set_cons_succ]
  refine anyR_take (i := 25) (oi := { dst := some 56, op := Go.Op.move (Go.Operand.tmp 55), type := 4, pos := "law.go:92", after := #[{ on := 24, ground := Go.Ground.data }, { on := 16, ground := Go.Ground.chain }], guard := none }) (v := ?_) rfl (by kernel_rfl) (fun _ _ _ h => h) (Or.inl ⟨by rfl, ?_⟩) HS.out ?_
  rotate_left
  · intro w9 hSw; (try dsimp only at hSw); go_simp; try (with_reducible rfl)
  try simp only [Act.put, List.setIfInBounds_toArray, List.set_cons_zero, List.set_cons_succ]
  refine anyR_take (i := 26) (oi := { dst := some 57, op := Go.Op.move (Go.Operand.tmp 8), type := 36, pos := "law.go:92", after := #[{ on := 25, ground := Go.Ground.guard }], guard := some (25, true) }) (v := ?_) rfl (by kernel_rfl) (fun _ _ _ h => h) (Or.inl ⟨by rfl, ?_⟩) HS.out ?_
  rotate_left
  · intro w9 hSw; (try dsimp only at hSw); go_simp; try (with_reducible rfl)
  try simp only [Act.put, List.setIfInBounds_toArray, List.set_cons_zero, List.set_cons_succ]
  refine anyR_take (i := 27) (oi := { dst := some 58, op := Go.Op.binOp Go.BinOp.eql 36 (Go.Operand.tmp 57) (Go.Operand.const (Go.Value.int Go.IntKind.i64 130)) 36, type := 4, pos := "law.go:92", after := #[{ on := 26, ground := Go.Ground.data }, { on := 25, ground := Go.Ground.guard }], guard := some (25, true) }) (v := ?_) rfl (by kernel_rfl) (fun _ _ _ h => h) (Or.inl ⟨by rfl, ?_⟩) HS.out ?_
  rotate_left
  · intro w9 hSw; (try dsimp only at hSw); go_simp; try (with_reducible rfl)
  try simp only [Act.put, List.setIfInBounds_toArray, List.set_cons_zero, List.set_cons_succ]
  refine anyR_take (i := 28) (oi := { dst := some 59, op := Go.Op.pick (Go.Operand.tmp 56) (Go.Operand.tmp 58) (Go.Operand.const (Go.Value.bool false)), type := 4, pos := "law.go:92", after := #[{ on := 25, ground := Go.Ground.data }, { on := 27, ground := Go.Ground.data }], guard := none }) (v := ?_) rfl (by kernel_rfl) (fun _ _ _ h => h) (Or.inl ⟨by rfl, ?_⟩) HS.out ?_
  rotate_left
  · intro w9 hSw; (try dsimp only at hSw); go_simp; try (with_reducible rfl)
  try simp only [Act.put, List.setIfInBounds_toArray, List.set_cons_zero, List.set_cons_succ]
  refine anyR_take (i := 29) (oi := { dst := some 60, op := Go.Op.move (Go.Operand.tmp 59), type := 4, pos := "law.go:92", after := #[{ on := 28, ground := Go.Ground.data }, { on := 25, ground := Go.Ground.chain }], guard := none }) (v := ?_) rfl (by kernel_rfl) (fun _ _ _ h => h) (Or.inl ⟨by rfl, ?_⟩) HS.out ?_
  rotate_left
  · intro w9 hSw; (try dsimp only at hSw); go_simp; try (with_reducible rfl)
  try simp only [Act.put, List.setIfInBounds_toArray, List.set_cons_zero, List.set_cons_succ]
  refine anyR_take (i := 30) (oi := { dst := some 61, op := Go.Op.fieldAddr 35 (Go.Operand.tmp 7) 0, type := 0, pos := "law.go:92", after := #[{ on := 29, ground := Go.Ground.guard }], guard := some (29, true) }) (v := ?_) rfl (by kernel_rfl) (fun _ _ _ h => h) (Or.inl ⟨by rfl, ?_⟩) HS.out ?_
  rotate_left
  · intro w9 hSw; (try dsimp only at hSw); go_simp; try (with_reducible rfl)
  try simp only [Act.put, List.setIfInBounds_toArray, List.set_cons_zero, List.set_cons_succ]
  refine anyR_take (i := 31) (oi := { dst := some 62, op := Go.Op.load 25 (Go.Operand.tmp 61), type := 25, pos := "law.go:92", after := #[{ on := 30, ground := Go.Ground.data }, { on := 29, ground := Go.Ground.guard }], guard := some (29, true) }) (v := ?_) rfl (by kernel_rfl) (fun _ _ _ h => h) (Or.inl ⟨by rfl, ?_⟩) HS.out ?_
  rotate_left
  · intro w9 hSw; (try dsimp only at hSw); go_simp; try (with_reducible rfl)
  try simp only [Act.put, List.setIfInBounds_toArray, List.set_cons_zero, List.set_cons_succ]
  refine anyR_take (i := 32) (oi := { dst := some 63, op := Go.Op.binOp Go.BinOp.eql 25 (Go.Operand.tmp 62) (Go.Operand.const (Go.Value.int Go.IntKind.u8 0)) 25, type := 4, pos := "law.go:92", after := #[{ on := 31, ground := Go.Ground.data }, { on := 29, ground := Go.Ground.guard }], guard := some (29, true) }) (v := ?_) rfl (by kernel_rfl) (fun _ _ _ h => h) (Or.inl ⟨by rfl, ?_⟩) HS.out ?_
  rotate_left
  · intro w9 hSw; (try dsimp only at hSw); go_simp; try (with_reducible rfl)
  try simp only [Act.put, List.setIfInBounds_toArray, List.set_cons_zero, List.set_cons_succ]
  refine anyR_take (i := 33) (oi := { dst := some 64, op := Go.Op.pick (Go.Operand.tmp 60) (Go.Operand.tmp 63) (Go.Operand.const (Go.Value.bool false)), type := 4, pos := "law.go:92", after := #[{ on := 29, ground := Go.Ground.data }, { on := 32, ground := Go.Ground.data }], guard := none }) (v := ?_) rfl (by kernel_rfl) (fun _ _ _ h => h) (Or.inl ⟨by rfl, ?_⟩) HS.out ?_
  rotate_left
  · intro w9 hSw; (try dsimp only at hSw); go_simp; try (with_reducible rfl)
  try simp only [Act.put, List.setIfInBounds_toArray, List.set_cons_zero, List.set_cons_succ]
  refine anyR_take (i := 34) (oi := { dst := some 65, op := Go.Op.move (Go.Operand.tmp 64), type := 4, pos := "law.go:92", after := #[{ on := 33, ground := Go.Ground.data }, { on := 29, ground := Go.Ground.chain }], guard := none }) (v := ?_) rfl (by kernel_rfl) (fun _ _ _ h => h) (Or.inl ⟨by rfl, ?_⟩) HS.out ?_
  rotate_left
  · intro w9 hSw; (try dsimp only at hSw); go_simp; try (with_reducible rfl)
  try simp only [Act.put, List.setIfInBounds_toArray, List.set_cons_zero, List.set_cons_succ]
  refine anyR_take (i := 35) (oi := { dst := some 66, op := Go.Op.fieldAddr 35 (Go.Operand.tmp 7) 2, type := 0, pos := "law.go:92", after := #[{ on := 34, ground := Go.Ground.guard }], guard := some (34, true) }) (v := ?_) rfl (by kernel_rfl) (fun _ _ _ h => h) (Or.inl ⟨by rfl, ?_⟩) HS.out ?_
  rotate_left
  · intro w9 hSw; (try dsimp only at hSw); go_simp; try (with_reducible rfl)
  try simp only [Act.put, List.setIfInBounds_toArray, List.set_cons_zero, List.set_cons_succ]
  refine anyR_take (i := 36) (oi := { dst := some 67, op := Go.Op.load 33 (Go.Operand.tmp 66), type := 33, pos := "law.go:92", after := #[{ on := 35, ground := Go.Ground.data }, { on := 34, ground := Go.Ground.guard }], guard := some (34, true) }) (v := ?_) rfl (by kernel_rfl) (fun _ _ _ h => h) (Or.inl ⟨by rfl, ?_⟩) HS.out ?_
  rotate_left
  · intro w9 hSw; (try dsimp only at hSw); go_simp; try (with_reducible rfl)
  try simp only [Act.put, List.setIfInBounds_toArray, List.set_cons_zero, List.set_cons_succ]
  refine anyR_take (i := 37) (oi := { dst := some 68, op := Go.Op.call { callee := Go.Callee.builtin Go.Builtin.len, args := #[Go.Operand.tmp 67], argTypes := #[33] }, type := 3, pos := "law.go:92", after := #[{ on := 36, ground := Go.Ground.data }, { on := 34, ground := Go.Ground.guard }], guard := some (34, true) }) (v := ?_) rfl (by kernel_rfl) (fun _ _ _ h => h) (Or.inl ⟨by rfl, ?_⟩) HS.out ?_
  rotate_left
  · intro w9 hSw; (try dsimp only at hSw); go_simp; try (with_reducible rfl)
  try simp only [Act.put, List.setIfInBounds_toArray, List.set_cons_zero, List.set_cons_succ]
  refine anyR_take (i := 38) (oi := { dst := some 69, op := Go.Op.binOp Go.BinOp.eql 3 (Go.Operand.tmp 68) (Go.Operand.const (Go.Value.int Go.IntKind.i64 0)) 3, type := 4, pos := "law.go:92", after := #[{ on := 37, ground := Go.Ground.data }, { on := 34, ground := Go.Ground.guard }], guard := some (34, true) }) (v := ?_) rfl (by kernel_rfl) (fun _ _ _ h => h) (Or.inl ⟨by rfl, ?_⟩) HS.out ?_
  rotate_left
  · intro w9 hSw; (try dsimp only at hSw); go_simp; try (with_reducible rfl)
  try simp only [Act.put, List.setIfInBounds_toArray, List.set_cons_zero, List.set_cons_succ]
  refine anyR_take (i := 39) (oi := { dst := some 70, op := Go.Op.pick (Go.Operand.tmp 65) (Go.Operand.tmp 69) (Go.Operand.const (Go.Value.bool false)), type := 4, pos := "law.go:92", after := #[{ on := 34, ground := Go.Ground.data }, { on := 38, ground := Go.Ground.data }], guard := none }) (v := ?_) rfl (by kernel_rfl) (fun _ _ _ h => h) (Or.inl ⟨by rfl, ?_⟩) HS.out ?_
  rotate_left
  · intro w9 hSw; (try dsimp only at hSw); go_simp; try (with_reducible rfl)
  try simp only [Act.put, List.setIfInBounds_toArray, List.set_cons_zero, List.set_cons_succ]
  refine anyR_take (i := 40) (oi := { dst := some 71, op := Go.Op.move (Go.Operand.tmp 70), type := 4, pos := "law.go:92", after := #[{ on := 39, ground := Go.Ground.data }, { on := 34, ground := Go.Ground.chain }], guard := none }) (v := ?_) rfl (by kernel_rfl) (fun _ _ _ h => h) (Or.inl ⟨by rfl, ?_⟩) HS.out ?_
  rotate_left
  · intro w9 hSw; (try dsimp only at hSw); go_simp; try (with_reducible rfl)
  try simp only [Act.put, List.setIfInBounds_toArray, List.set_cons_zero, List.set_cons_succ]
  refine anyR_take (i := 41) (oi := { dst := some 72, op := Go.Op.load 35 (Go.Operand.tmp 3), type := 35, pos := "law.go:92", after := #[{ on := 40, ground := Go.Ground.guard }], guard := some (40, true) }) (v := ?_) rfl (by kernel_rfl) (fun _ _ _ h => h) (Or.inl ⟨by rfl, ?_⟩) HS.out ?_
  rotate_left
  · intro w9 hSw; (try dsimp only at hSw); go_simp; try (with_reducible rfl)
  try simp only [Act.put, List.setIfInBounds_toArray, List.set_cons_zero, List.set_cons_succ]
  refine anyR_ready (rs := [42]) (by kernel_rfl) (by simp) ?_
  refine ReadyR.cons (o := { dst := some 73, op := Go.Op.call { callee := Go.Callee.value (Go.Operand.func 20), args := #[Go.Operand.tmp 72], argTypes := #[35] }, type := 3, pos := "law.go:92", after := #[{ on := 41, ground := Go.Ground.data }, { on := 40, ground := Go.Ground.chain }, { on := 40, ground := Go.Ground.guard }], guard := some (40, true) }) rfl (fun K hK => ?_) ReadyR.nil
  go_simp
  refine (HDP.out Wd HBD.out).mono ?_
  rintro e w8 ⟨rfl, hb8⟩
  have hb8' := HBD.out.trans (hb8.mono HBD.out.size)
  refine hK.out _ _ (fun _ => HSA.out w8 hb8') ?_
  have HS8 := Lib.hid (HSA.out w8 hb8')
  have HB8 := Lib.hid hb8'
  clear hK K hb8 hb8'
  try simp only [Act.put, List.setIfInBounds_toArray, List.set_cons_zero, List.set_cons_succ]
  refine anyR_take (i := 43) (oi := { dst := some 74, op := Go.Op.binOp Go.BinOp.eql 3 (Go.Operand.tmp 73) (Go.Operand.const (Go.Value.int Go.IntKind.i64 1)) 3, type := 4, pos := "law.go:92", after := #[{ on := 42, ground := Go.Ground.data }, { on := 40, ground := Go.Ground.guard }], guard := some (40, true) }) (v := ?_) rfl (by kernel_rfl) (fun _ _ _ h => h) (Or.inl ⟨by rfl, ?_⟩) HS8.out ?_
  rotate_left
  · intro w9 hSw; (try dsimp only at hSw); go_simp; try (with_reducible rfl)
  try simp only [Act.put, List.setIfInBounds_toArray, List.set_cons_zero, List.set_cons_succ]
  refine anyR_take (i := 44) (oi := { dst := some 75, op := Go.Op.pick (Go.Operand.tmp 71) (Go.Operand.tmp 74) (Go.Operand.const (Go.Value.bool false)), type := 4, pos := "law.go:92", after := #[{ on := 40, ground := Go.Ground.data }, { on := 43, ground := Go.Ground.data }], guard := none }) (v := ?_) rfl (by kernel_rfl) (fun _ _ _ h => h) (Or.inl ⟨by rfl, ?_⟩) HS8.out ?_
  rotate_left
  · intro w9 hSw; (try dsimp only at hSw); go_simp; try (with_reducible rfl)
  try simp only [Act.put, List.setIfInBounds_toArray, List.set_cons_zero, List.set_cons_succ]
  refine anyR_take (i := 45) (oi := { dst := some 76, op := Go.Op.move (Go.Operand.tmp 75), type := 4, pos := "law.go:92", after := #[{ on := 44, ground := Go.Ground.data }, { on := 42, ground := Go.Ground.chain }], guard := none }) (v := ?_) rfl (by kernel_rfl) (fun _ _ _ h => h) (Or.inl ⟨by rfl, ?_⟩) HS8.out ?_
  rotate_left
  · intro w9 hSw; (try dsimp only at hSw); go_simp; try (with_reducible rfl)
  try simp only [Act.put, List.setIfInBounds_toArray, List.set_cons_zero, List.set_cons_succ]
  refine anyR_take (i := 46) (oi := { dst := some 77, op := Go.Op.load 35 (Go.Operand.tmp 3), type := 35, pos := "law.go:92", after := #[{ on := 45, ground := Go.Ground.guard }], guard := some (45, true) }) (v := ?_) rfl (by kernel_rfl) (fun _ _ _ h => h) (Or.inl ⟨by rfl, ?_⟩) HS8.out ?_
  rotate_left
  · intro w9 hSw; (try dsimp only at hSw); go_simp; try (with_reducible rfl)
  try simp only [Act.put, List.setIfInBounds_toArray, List.set_cons_zero, List.set_cons_succ]
  refine anyR_take (i := 47) (oi := { dst := some 78, op := Go.Op.load 35 (Go.Operand.tmp 3), type := 35, pos := "law.go:92", after := #[{ on := 45, ground := Go.Ground.guard }], guard := some (45, true) }) (v := ?_) rfl (by kernel_rfl) (fun _ _ _ h => h) (Or.inl ⟨by rfl, ?_⟩) HS8.out ?_
  rotate_left
  · intro w9 hSw; (try dsimp only at hSw); go_simp; try (with_reducible rfl)
  try simp only [Act.put, List.setIfInBounds_toArray, List.set_cons_zero, List.set_cons_succ]
  refine anyR_ready (rs := [48]) (by kernel_rfl) (by simp) ?_
  refine ReadyR.cons (o := { dst := some 79, op := Go.Op.call { callee := Go.Callee.value (Go.Operand.func 17), args := #[Go.Operand.tmp 77, Go.Operand.tmp 78], argTypes := #[35, 35] }, type := 4, pos := "law.go:92", after := #[{ on := 46, ground := Go.Ground.data }, { on := 47, ground := Go.Ground.data }, { on := 45, ground := Go.Ground.chain }, { on := 45, ground := Go.Ground.guard }], guard := some (45, true) }) rfl (fun K hK => ?_) ReadyR.nil
  go_simp
  refine (HSN.out w8 HB8.out).mono ?_
  rintro e w9 ⟨rfl, hb9⟩
  rw [skip_same]
  have hb9' := HB8.out.trans (hb9.mono HB8.out.size)
  refine hK.out _ _ (fun _ => HSA.out w9 hb9') ?_
  have HS9 := Lib.hid (HSA.out w9 hb9')
  have HB9 := Lib.hid hb9'
  clear hK K hb9 hb9'
  try simp only [Act.put, List.setIfInBounds_toArray, List.set_cons_zero, List.set_cons_succ]
  refine anyR_take (i := 49) (oi := { dst := some 80, op := Go.Op.pick (Go.Operand.tmp 76) (Go.Operand.tmp 79) (Go.Operand.const (Go.Value.bool false)), type := 4, pos := "law.go:92", after := #[{ on := 45, ground := Go.Ground.data }, { on := 48, ground := Go.Ground.data }], guard := none }) (v := ?_) rfl (by kernel_rfl) (fun _ _ _ h => h) (Or.inl ⟨by rfl, ?_⟩) HS9.out ?_
  rotate_left
  · intro w9 hSw; (try dsimp only at hSw); go_simp; try (with_reducible rfl)
  try simp only [Act.put, List.setIfInBounds_toArray, List.set_cons_zero, List.set_cons_succ]
  refine anyR_take (i := 50) (oi := { dst := some 0, op := Go.Op.assign (Go.Operand.tmp 80), type := 4, pos := "law.go:92", after := #[{ on := 49, ground := Go.Ground.data }, { on := 48, ground := Go.Ground.chain }, { on := 0, ground := Go.Ground.phase }, { on := 1, ground := Go.Ground.phase }, { on := 2, ground := Go.Ground.phase }, { on := 3, ground := Go.Ground.phase }, { on := 4, ground := Go.Ground.phase }, { on := 5, ground := Go.Ground.phase }, { on := 6, ground := Go.Ground.phase }, { on := 7, ground := Go.Ground.phase }, { on := 8, ground := Go.Ground.phase }, { on := 9, ground := Go.Ground.phase }, { on := 10, ground := Go.Ground.phase }, { on := 11, ground := Go.Ground.phase }, { on := 12, ground := Go.Ground.phase }, { on := 13, ground := Go.Ground.phase }, { on := 14, ground := Go.Ground.phase }, { on := 15, ground := Go.Ground.phase }, { on := 16, ground := Go.Ground.phase }, { on := 17, ground := Go.Ground.phase }, { on := 18, ground := Go.Ground.phase }, { on := 19, ground := Go.Ground.phase }, { on := 20, ground := Go.Ground.phase }, { on := 21, ground := Go.Ground.phase }, { on := 22, ground := Go.Ground.phase }, { on := 23, ground := Go.Ground.phase }, { on := 24, ground := Go.Ground.phase }, { on := 25, ground := Go.Ground.phase }, { on := 26, ground := Go.Ground.phase }, { on := 27, ground := Go.Ground.phase }, { on := 28, ground := Go.Ground.phase }, { on := 29, ground := Go.Ground.phase }, { on := 30, ground := Go.Ground.phase }, { on := 31, ground := Go.Ground.phase }, { on := 32, ground := Go.Ground.phase }, { on := 33, ground := Go.Ground.phase }, { on := 34, ground := Go.Ground.phase }, { on := 35, ground := Go.Ground.phase }, { on := 36, ground := Go.Ground.phase }, { on := 37, ground := Go.Ground.phase }, { on := 38, ground := Go.Ground.phase }, { on := 39, ground := Go.Ground.phase }, { on := 40, ground := Go.Ground.phase }, { on := 41, ground := Go.Ground.phase }, { on := 42, ground := Go.Ground.phase }, { on := 43, ground := Go.Ground.phase }, { on := 44, ground := Go.Ground.phase }, { on := 45, ground := Go.Ground.phase }, { on := 46, ground := Go.Ground.phase }, { on := 47, ground := Go.Ground.phase }, { on := 48, ground := Go.Ground.phase }, { on := 49, ground := Go.Ground.phase }], guard := none }) (v := ?_) rfl (by kernel_rfl) (fun _ _ _ h => h) (Or.inl ⟨by rfl, ?_⟩) HS9.out ?_
  rotate_left
  · intro w9 hSw; (try dsimp only at hSw); go_simp; try (with_reducible rfl)
  try simp only [Act.put, List.setIfInBounds_toArray, List.set_cons_zero, List.set_cons_succ]
  refine anyR_done (by kernel_rfl) ?_ _
  simp only [Exit.then]
  go_wp2
  go_ret
  exact ⟨rfl, HBW.out.trans (HB9.out.mono HBW.out.size)⟩
end Go.Proofs.Ytfefldkljbbbpaa
set_option linter.unusedVariables false
set_option linter.unusedSimpArgs false
namespace Go.Proofs.Ytfefldkljbbbpaa
open Go.RowKit Go.Shelf Go.Proofs.YtfefldkljbbbpaaW.PrintWords Go.Proofs.YtfefldkljbbbpaaW.PrintLast Go.Proofs.YtfefldkljbbbpaaW.PrintMore
theorem tells_pos (x : Nd) : 0 < (tells x).length := by
  rw [tells_eq]
  split <;> simp
theorem infoE8 : (Try.prog.info? 32).map (·.size) = some 8 := by kernel_rfl
def ev77 : List Value := [.int .u8 77, .int .u8 0, .int .u8 0, .string ⟨#[]⟩, .int .i64 0, .int .i64 0, .int .i64 0, .int .i64 0]
theorem ev77_one : ∀ u ∈ ev77, u.oneCell' = true := by
  intro u hu
  simp only [ev77, List.mem_cons, List.not_mem_nil, or_false] at hu
  rcases hu with h | h | h | h | h | h | h | h <;> subst h <;> rfl
/-- The row of events, overwritten or not; all else as it was. -/
structure EInv (w8 : World) (g n : Nat) (V : World) : Prop where
  grown : w8.grownBy V (some g)
  row : ∃ cs : Array Value, V.heap[g]? = some (.cells cs 32 (0, 0)) ∧ n * 8 ≤ cs.size
theorem EInv.start {w6 w8 : World} {base g n c : Nat} {ok : Nat → Prop} {xs : List Ev} (h : Kd.R kEv 32 w6 base ok (.slice (some ⟨g, 0, none⟩) n c) xs) (hn : xs.length = n) (hp : 0 < n) (hb : Below w6.heap.size w6 w8) : EInv w8 g n w8 := by
  obtain ⟨inner, ho⟩ := Kd.R_own h
  rcases ho.2 with ⟨he, _⟩ | ⟨g', cap, cur, he, _, hh, h1, _, hs, _⟩
  · cases he
  · injection he with he _ hc
    injection he with he
    injection he with he
    subst he
    refine ⟨World.grownBy.refl _ _, cur, (hb.block _ (blk_lt hh)).trans hh, ?_⟩
    rw [hs, ← hn]
    exact Nat.mul_le_mul_right _ h1
theorem EInv.next {w8 V : World} {g n i : Nat} (h : EInv w8 g n V) (hi : i < n) : ∃ cs : Array Value, V.heap[g]? = some (.cells cs 32 (0, 0)) ∧ i * 8 + ev77.length ≤ cs.size ∧ ∀ V', V' = V.setCells g (i * 8) ev77 → EInv w8 g n V' := by
  obtain ⟨cs, hc, hs⟩ := h.row
  have hf : i * 8 + ev77.length ≤ cs.size := by simp only [ev77, List.length_cons, List.length_nil]; omega
  refine ⟨cs, hc, hf, ?_⟩
  rintro _ rfl
  obtain ⟨cur', k1, k2, _⟩ := setCells_row ev77 (i * 8) V _ hc hf
  exact ⟨World.grownBy.trans h.grown (setCells_grown V g (i * 8) ev77), cur', k1, by rw [k2]; exact hs⟩
theorem eq_nilFunc (f : Fn) (ts cs : Array Value) (w : World) : Sem.run Try.prog (binOp BinOp.eql 51 (Value.func f ts cs) Value.nilFunc) w = Result.ok (.bool false) w := by
  first
  | rfl
  | simp [go_sem, binOp]
def noPanic (Q : Exit → Act → World → Prop) : Exit → Act → World → Prop
  | .panic _, _, _ => False
  | e, a, w => Q e a w
theorem noPanic_out {Q : Exit → Act → World → Prop} (e : Exit) (a : Act) (w : World) (h : noPanic Q e a w) : Q e a w := by
  cases e <;> first | exact h | exact False.elim h
/-- All that the checks read, ahead of them. -/
structure TAt (w : World) (W0 w3 w4 w10 w11 w12 g : Nat) (x : Nd) (A A10 : Option Addr) (c c10 : Nat) (E : Int) : Prop where
  early : Boxed w (W0 + 1) 3 (.int .i64 E)
  res : Boxed w (W0 + 1 + 1) 4 (.bool false)
  tks : Boxed w w10 48 (.slice A10 (toks x).length c10)
  seq : Boxed w w12 51 (.func (.func 32) #[] #[.pointer (some ⟨w11, 0, none⟩)])
  bn : w.heap[w11]? = some (.cells #[.int .u8 x.f0, .int .u8 x.f1.f0, .string x.f1.f1, .int .i64 x.f1.f2.f0, .int .i64 x.f1.f2.f1, .int .i64 x.f1.f2.f2, .int .i64 x.f1.f3, .slice (some ⟨g, 0, none⟩) x.f2.length (x.f2.length + 1)] TN (0, 0))
  bx : w.heap[w4]? = some (.cells #[.int .u8 x.f0, .int .u8 x.f1.f0, .string x.f1.f1, .int .i64 x.f1.f2.f0, .int .i64 x.f1.f2.f1, .int .i64 x.f1.f2.f2, .int .i64 x.f1.f3, .slice (some ⟨g, 0, none⟩) x.f2.length (x.f2.length + 1)] TN (0, 0))
  bm : w.heap[W0]? = some (.cells #[.int .u8 x.f0, .int .u8 x.f1.f0, .string x.f1.f1, .int .i64 x.f1.f2.f0, .int .i64 x.f1.f2.f1, .int .i64 x.f1.f2.f2, .int .i64 x.f1.f3, .slice A x.f2.length c] TN (0, 0))
  cop : Cop w w3 x (ndCells x.f0 x.f1 (.slice (some ⟨g, 0, none⟩) x.f2.length (x.f2.length + 1)))
  row : Kd.C kTk w A10 (toks x).length (toks x)
  kid : Kd.C kNd w A x.f2.length x.f2
theorem TAt.below {w V : World} {W0 w3 w4 w10 w11 w12 g : Nat} {x : Nd} {A A10 : Option Addr} {c c10 : Nat} {E : Int} (h : TAt w W0 w3 w4 w10 w11 w12 g x A A10 c c10 E) (hb : Below w.heap.size w V) : TAt V W0 w3 w4 w10 w11 w12 g x A A10 c c10 E :=
  ⟨(hb.block _ h.early.lt).trans h.early, (hb.block _ h.res.lt).trans h.res, (hb.block _ h.tks.lt).trans h.tks, (hb.block _ h.seq.lt).trans h.seq, (hb.block _ (blk_lt h.bn)).trans h.bn, (hb.block _ (blk_lt h.bx)).trans h.bx, (hb.block _ (blk_lt h.bm)).trans h.bm, cop_below h.cop hb, Kd.C_below h.row hb, Kd.C_below h.kid hb⟩
theorem KpT.setBox {w0 W : World} {b : Nat} {u : Value} (v : Value) (h : Boxed W b 3 u) (hb : w0.heap.size ≤ b) : KpT w0 W (W.setCell ⟨b, 0, none⟩ v) := by
  have hg := grownBy_setCell' W b v
  refine ⟨(Below.refl _ W).setCell (p := ⟨b, 0, none⟩) hb v, fun b' D hD => ?_, fun b' D hD => ?_⟩
  · refine (hg.block b' (blk_lt hD) (fun e => ?_)).trans hD
    cases e
    rw [show W.heap[b]? = _ from h] at hD
    cases hD
  · refine (hg.block b' (blk_lt hD) (fun e => ?_)).trans hD
    cases e
    rw [show W.heap[b]? = _ from h] at hD
    cases hD
theorem KpT.drew (w0 W : World) : KpT w0 W W.drew := ⟨(Below.refl _ W).drew, fun _ _ h => h, fun _ _ h => h⟩
theorem KpT.alloc {w0 W : World} (h : w0.heap.size ≤ W.heap.size) (o : Obj) : KpT w0 W (W.alloc o) := KpT.of_below ((Below.refl _ W).alloc (Nat.le_refl _) o) h
theorem KpT.putObj {w0 W : World} {l : Nat} {o : Obj} (o' : Obj) (hl : w0.heap.size ≤ l) (h : W.heap[l]? = some o) (hc : o.isCells = false) : KpT w0 W (W.putObj l o') := by
  have hg := grownBy_putObj' W l o'
  refine ⟨(Below.refl _ W).grown hg (Nat.le_trans hl (Nat.le_of_lt (blk_lt h))) (fun k e => by cases e; exact hl), fun b' D hD => ?_, fun b' D hD => ?_⟩
  · refine (hg.block b' (blk_lt hD) (fun e => ?_)).trans hD
    cases e
    rw [h] at hD
    cases hD
    cases hc
  · refine (hg.block b' (blk_lt hD) (fun e => ?_)).trans hD
    cases e
    rw [h] at hD
    cases hD
    cases hc
theorem kpt_own {β : Type} {w0 V : World} {B : Nat} (hB : w0.heap.size ≤ B) (hV : w0.heap.size ≤ V.heap.size) : OwnFrom B (fun (_ : β) W => KpT w0 V W) := by
  intro _ X Y row hs hg hr
  refine ⟨hs.below.grown hg (Nat.le_trans hV hs.below.size) (fun k e => Nat.le_trans hB (hr k e).1), fun b D hD => ?_, fun b D hD => ?_⟩
  · have hX := hs.y b D hD
    refine (hg.block b (blk_lt hX) (fun e => ?_)).trans hX
    obtain ⟨_, o, ho, hc⟩ := hr b e.symm
    rw [hX] at ho; cases ho; cases hc
  · have hX := hs.w b D hD
    refine (hg.block b (blk_lt hX) (fun e => ?_)).trans hX
    obtain ⟨_, o, ho, hc⟩ := hr b e.symm
    rw [hX] at ho; cases ho; cases hc
/-- A range over the tokens, with a count in the box b. -/
structure LI (w0 V : World) (B b : Nat) (L pre : List Tk) (W : World) : Prop where
  kp : KpT w0 V W
  keeps : KeepsFrom B V W
  box : Boxed W b 3 (.int .i64 (pre.length : Nat))
  pre : pre <+: L
theorem LI.own {w0 V : World} {B b B' : Nat} {L : List Tk} (h1 : w0.heap.size ≤ V.heap.size) (h2 : V.heap.size ≤ B') : OwnFrom B' (LI w0 V B b L) := by
  intro pre X Y row hs hg hr
  exact ⟨kpt_own (β := Unit) (Nat.le_trans h1 h2) h1 () X Y row hs.kp hg hr, ownFrom_keepsFrom (β := Unit) h2 () X Y row hs.keeps hg hr, Own.from (boxed_own (β := Unit) b _ (fun _ => .int .i64 (pre.length : Nat))) _ () X Y row hs.box hg hr, hs.pre⟩
theorem LI.alloc {w0 V W : World} {B b : Nat} {L pre : List Tk} (h : LI w0 V B b L pre W) (h1 : w0.heap.size ≤ V.heap.size) (o : Obj) : LI w0 V B b L pre (W.alloc o) :=
  ⟨h.kp.trans (KpT.alloc (Nat.le_trans h1 h.kp.below.size) o), h.keeps.trans ((KeepsOthers.alloc _ _).from _), h.box.alloc _, h.pre⟩
theorem LI.next {w0 V W : World} {B b : Nat} {L pre : List Tk} {t : Tk} (h : LI w0 V B b L pre W) (hb : w0.heap.size ≤ b) (hp : pre ++ [t] <+: L) : LI w0 V B b L (pre ++ [t]) (W.setCell ⟨b, 0, none⟩ (.int .i64 ((pre.length : Int) + 1))) :=
  ⟨h.kp.trans (KpT.setBox _ h.box hb), h.keeps.trans ((KeepsOthers.setCell _ _ _).from _), by
    have hl : (((pre ++ [t]).length : Nat) : Int) = (pre.length : Int) + 1 := by simp
    rw [hl]
    exact h.box.set _, hp⟩
theorem LI.drew {w0 V W : World} {B b : Nat} {L pre : List Tk} (h : LI w0 V B b L pre W) : LI w0 V B b L pre W.drew :=
  ⟨h.kp.trans (KpT.drew _ _), h.keeps.trans ((KeepsOthers.drew _).from _), h.box, h.pre⟩
theorem tok_pre {L pre : List Tk} {t u : Tk} (hp : pre <+: L) (hu : L[pre.length]? = some u) : pre ++ [t] <+: L ↔ t = u := by
  obtain ⟨r, rfl⟩ := hp
  have hr : r[0]? = some u := by simpa [List.getElem?_append_right] using hu
  cases r with
  | nil => cases hr
  | cons a r =>
    simp only [List.getElem?_cons_zero, Option.some.injEq] at hr
    subst hr
    constructor
    · rintro ⟨s, hs⟩
      rw [List.append_assoc] at hs
      have := List.append_cancel_left hs
      simp at this
      exact this.1
    · rintro rfl
      exact ⟨r, by simp⟩
theorem tok_at {w : World} {A : Option Addr} {n : Nat} {l : List Tk} (h : Kd.C kTk w A n l) (i : Nat) (x : Tk) (hi : i < n) (hx : l[i]? = some x) : ∃ ad, A = some ad ∧ w.cell? (ad.add (i * 6)) = some (.int .u8 x.f0) ∧ w.cell? ⟨(ad.add (i * 6)).block, (ad.add (i * 6)).off + 1, none⟩ = some (.string x.f1) ∧ w.cell? ⟨(ad.add (i * 6)).block, (ad.add (i * 6)).off + 2, none⟩ = some (.int .i64 x.f2.f0) ∧ w.cell? ⟨(ad.add (i * 6)).block, (ad.add (i * 6)).off + 3, none⟩ = some (.int .i64 x.f2.f1) ∧ w.cell? ⟨(ad.add (i * 6)).block, (ad.add (i * 6)).off + 4, none⟩ = some (.int .i64 x.f2.f2) ∧ w.cell? ⟨(ad.add (i * 6)).block, (ad.add (i * 6)).off + 5, none⟩ = some (.int .i64 x.f3) := by
  obtain ⟨ad, h0, k0, k1, k2, k3, k4, k5⟩ := PTreeSame.at_T30 h (i : Int) (by omega) (by omega)
  have hr : PTreeSame.rd_T30 l (i : Int) = x := by simp [PTreeSame.rd_T30, List.getD, hx]
  rw [hr] at k0 k1 k2 k3 k4 k5
  rw [Int.toNat_natCast] at k0 k1 k2 k3 k4 k5
  exact ⟨ad, h0, k0, k1, k2, k3, k4, k5⟩
theorem own_or {β : Type} {B : Nat} {I : β → World → Prop} (h : OwnFrom B I) (p : Prop) (q r : β → Prop) : OwnFrom B (fun s W => (p ∧ I s W ∧ q s) ∨ r s) := by
  rintro s X Y row (⟨a, b, c⟩ | h') hg hr
  · exact .inl ⟨a, h s X Y row b hg hr, c⟩
  · exact .inr h'
theorem wpIn_post {F : Fence} {n : Nat} {P : Program} {c : Code} {Q : Exit → Act → World → Prop} {a : Act} {w : World} (R : Act → World → Prop) (h2 : ∀ a w, R a w → Q .normal a w) (h3 : ∀ a w, Q .normal a w → Q (.exit 2) a w)
    (h1 : c.wpIn F n P (fun e a w => (e = .normal ∨ e = .exit 2) ∧ R a w) a w) : c.wpIn F n P Q a w := by
  refine wpIn_mono h1 ?_
  rintro e a w ⟨rfl | rfl, h⟩
  · exact h2 a w h
  · exact h3 a w (h2 a w h)
theorem tk_neq {t u : Tk} {b : Bool} (hb : b = false ↔ t = u) (w : World) : (if t.f0 = u.f0 then if t.f1.toList = u.f1.toList then if t.f2.f0 = u.f2.f0 then if t.f2.f1 = u.f2.f1 then if t.f2.f2 = u.f2.f2 then if t.f3 = u.f3 then Result.ok (Next.value (Value.bool false)) w
              else Result.ok (Next.value (Value.bool true)) w
            else Result.ok (Next.value (Value.bool true)) w
          else Result.ok (Next.value (Value.bool true)) w
        else Result.ok (Next.value (Value.bool true)) w
      else Result.ok (Next.value (Value.bool true)) w
    else Result.ok (Next.value (Value.bool true)) w) = Result.ok (Next.value (Value.bool b)) w := by
  cases b with
  | false =>
    have h := hb.1 rfl
    subst h
    simp
  | true =>
    have h : ¬ t = u := fun h => by have := hb.2 h; cases this
    obtain ⟨t0, t1, ⟨t2, t3, t4⟩, t5⟩ := t
    obtain ⟨u0, u1, ⟨u2, u3, u4⟩, u5⟩ := u
    simp only
    repeat' split
    all_goals first | rfl | skip
    rename_i a1 a2 a3 a4 a5 a6
    exact absurd (by rw [a1, (str_eq _ _).1 a2, a3, a4, a5, a6]) h
theorem wpIn_postN {F : Fence} {n : Nat} {P : Program} {c : Code} {Q : Exit → Act → World → Prop} {a : Act} {w : World} (R : Act → World → Prop) (h2 : ∀ a w, R a w → Q .normal a w)
    (h1 : c.wpIn F n P (fun e a w => e = .normal ∧ R a w) a w) : c.wpIn F n P Q a w := by
  refine wpIn_mono h1 ?_
  rintro e a w ⟨rfl, h⟩
  exact h2 a w h
end Go.Proofs.Ytfefldkljbbbpaa
