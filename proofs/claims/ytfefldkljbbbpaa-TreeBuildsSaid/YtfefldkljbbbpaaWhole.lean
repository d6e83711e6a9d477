/- The document's Whole, of two trees that are one: the walk. (Printed by genwh.py.) -/
import Derived.Test.YtfefldkljbbbpaaG6
set_option linter.unusedVariables false
set_option linter.unusedSimpArgs false
namespace Go.Proofs.Ytfefldkljbbbpaa
open Go.RowKit Go.Shelf Go.Proofs.YtfefldkljbbbpaaW.PrintWords Go.Proofs.YtfefldkljbbbpaaW.PrintLast Go.Proofs.YtfefldkljbbbpaaW.PrintMore

set_option maxRecDepth 100000 in
set_option maxHeartbeats 4000000 in
theorem whole_any : ∀ (N : Nat) (x : Nd) (A B : Option Addr) (c d : Nat) (w : World), nds x ≤ N → nds x ≤ 1073741824 → x.f2.length ≤ c → x.f2.length ≤ d → Kd.C kNd w A x.f2.length x.f2 → Kd.C kNd w B x.f2.length x.f2 →
    Calls Try.prog 11 #[.agg #[.int .u8 x.f0, .int .u8 x.f1.f0, .string x.f1.f1, .int .i64 x.f1.f2.f0, .int .i64 x.f1.f2.f1, .int .i64 x.f1.f2.f2, .int .i64 x.f1.f3, .slice A x.f2.length c], .agg #[.int .u8 x.f0, .int .u8 x.f1.f0, .string x.f1.f1, .int .i64 x.f1.f2.f0, .int .i64 x.f1.f2.f1, .int .i64 x.f1.f2.f2, .int .i64 x.f1.f3, .slice B x.f2.length d]] w fun e w' => e = .returned (.bool true) ∧ Below w.heap.size w w' := by
  intro N
  induction N with
  | zero => intro x A B c d w hN; have := nds_pos x; omega
  | succ N ih =>
    intro x A B c d w hN hbig hlc hld hC hD
    have hn : x.f2.length ≤ 1073741823 := by rw [nds_eq] at hbig; have := ndsL_len x.f2; omega
    have IH := Lib.hid ih
    have HC := Lib.hid hC
    have HD := Lib.hid hD
    have HLC := Lib.hid (And.intro hlc hld)
    have HNN := Lib.hid (And.intro hN hbig)
    obtain ⟨W0, hW0⟩ : ∃ V, (w.alloc (.cells #[.int .u8 x.f0, .int .u8 x.f1.f0, .string x.f1.f1, .int .i64 x.f1.f2.f0, .int .i64 x.f1.f2.f1, .int .i64 x.f1.f2.f2, .int .i64 x.f1.f3, .slice A x.f2.length c] TN)).alloc (.cells #[.int .u8 x.f0, .int .u8 x.f1.f0, .string x.f1.f1, .int .i64 x.f1.f2.f0, .int .i64 x.f1.f2.f1, .int .i64 x.f1.f2.f2, .int .i64 x.f1.f3, .slice B x.f2.length d] TN) = V := ⟨_, rfl⟩
    have hb0 : Below w.heap.size w W0 := by rw [← hW0]; exact ((Below.refl _ w).alloc (Nat.le_refl _) _).alloc (by simp) _
    have h0 : W0.heap[w.heap.size]? = some (.cells #[.int .u8 x.f0, .int .u8 x.f1.f0, .string x.f1.f1, .int .i64 x.f1.f2.f0, .int .i64 x.f1.f2.f1, .int .i64 x.f1.f2.f2, .int .i64 x.f1.f3, .slice A x.f2.length c] TN (0, 0)) := by rw [← hW0]; exact (Below.heap_alloc _ _ _ (by simp)).trans (World.alloc_heap_new w _)
    have h1 : W0.heap[w.heap.size + 1]? = some (.cells #[.int .u8 x.f0, .int .u8 x.f1.f0, .string x.f1.f1, .int .i64 x.f1.f2.f0, .int .i64 x.f1.f2.f1, .int .i64 x.f1.f2.f2, .int .i64 x.f1.f3, .slice B x.f2.length d] TN (0, 0)) := by
      rw [← hW0]
      have := World.alloc_heap_new (w.alloc (.cells #[.int .u8 x.f0, .int .u8 x.f1.f0, .string x.f1.f1, .int .i64 x.f1.f2.f0, .int .i64 x.f1.f2.f1, .int .i64 x.f1.f2.f2, .int .i64 x.f1.f3, .slice A x.f2.length c] TN)) (.cells #[.int .u8 x.f0, .int .u8 x.f1.f0, .string x.f1.f1, .int .i64 x.f1.f2.f0, .int .i64 x.f1.f2.f1, .int .i64 x.f1.f2.f2, .int .i64 x.f1.f3, .slice B x.f2.length d] TN)
      rwa [World.size_alloc] at this
    have HW0 := Lib.hid hW0
    have HB0 := Lib.hid hb0
    have H0 := Lib.hid (nd_box h0)
    have H1 := Lib.hid (nd_box h1)
    clear ih hC hD hlc hld hN hbig hb0 h0 h1 hW0
    go_enter Try.func11, Try.ntmps11
    go_upto_region 3 with (fail)
    rw [HW0.out]
    clear HW0
    go_wp2
    go_loopw [5] (fun iv wr => ∃ i : Nat, i ≤ x.f2.length ∧ iv = .int .i64 i ∧ Hid (Below W0.heap.size W0 wr)) (fun iv _ => x.f2.length - (intOf iv).toNat)
    case atStart => exact ⟨0, Nat.zero_le _, rfl, Lib.hid (Below.refl _ _)⟩
    case round =>
      obtain ⟨i, hi, rfl, HR⟩ := hrel
      obtain ⟨p0, p1, p2, p3, p4, p5, p6, p7⟩ := H0.out wr HR.out
      obtain ⟨q0, q1, q2, q3, q4, q5, q6, q7⟩ := H1.out wr HR.out
      by_cases hlt : i < x.f2.length
      · have dlt : decide (i < x.f2.length) = true := decide_eq_true hlt
        obtain ⟨y, hy⟩ : ∃ y, x.f2[i]? = some y := ⟨_, List.getElem?_eq_getElem hlt⟩
        go_upto_region 6 with (fail)
        obtain ⟨Wd, hWd⟩ : ∃ V, wr.drew = V := ⟨_, rfl⟩
        have hbd : Below wr.heap.size wr Wd := by rw [← hWd]; exact (Below.refl _ wr).drew
        have hwd : Below w.heap.size w Wd := (HB0.out.trans (HR.out.mono HB0.out.size)).trans (hbd.mono (HB0.out.trans (HR.out.mono HB0.out.size)).size)
        have h0d : Below W0.heap.size W0 Wd := HR.out.trans (hbd.mono HR.out.size)
        obtain ⟨ad, A1, c1, rfl, hcs, hl1, hC1⟩ := kid_at (Kd.C_below HC.out hwd) i y hlt hy
        obtain ⟨bd, B1, d1, rfl, hds, hl2, hD1⟩ := kid_at (Kd.C_below HD.out hwd) i y hlt hy
        have hSall : ∀ V, Below Wd.heap.size Wd V → V.cell? ⟨w.heap.size, 7, none⟩ = some (.slice (some ad) x.f2.length c) ∧ V.cell? ⟨w.heap.size + 1, 7, none⟩ = some (.slice (some bd) x.f2.length d) ∧ V.cell? (ad.add (i * 8)) = some (.int .u8 y.f0) ∧ V.cell? ⟨(ad.add (i * 8)).block, (ad.add (i * 8)).off + 1, none⟩ = some (.int .u8 y.f1.f0) ∧ V.cell? ⟨(ad.add (i * 8)).block, (ad.add (i * 8)).off + 2, none⟩ = some (.string y.f1.f1) ∧ V.cell? ⟨(ad.add (i * 8)).block, (ad.add (i * 8)).off + 3, none⟩ = some (.int .i64 y.f1.f2.f0) ∧ V.cell? ⟨(ad.add (i * 8)).block, (ad.add (i * 8)).off + 4, none⟩ = some (.int .i64 y.f1.f2.f1) ∧ V.cell? ⟨(ad.add (i * 8)).block, (ad.add (i * 8)).off + 5, none⟩ = some (.int .i64 y.f1.f2.f2) ∧ V.cell? ⟨(ad.add (i * 8)).block, (ad.add (i * 8)).off + 6, none⟩ = some (.int .i64 y.f1.f3) ∧ V.cell? ⟨(ad.add (i * 8)).block, (ad.add (i * 8)).off + 7, none⟩ = some (.slice A1 y.f2.length c1) ∧ V.cell? (bd.add (i * 8)) = some (.int .u8 y.f0) ∧ V.cell? ⟨(bd.add (i * 8)).block, (bd.add (i * 8)).off + 1, none⟩ = some (.int .u8 y.f1.f0) ∧ V.cell? ⟨(bd.add (i * 8)).block, (bd.add (i * 8)).off + 2, none⟩ = some (.string y.f1.f1) ∧ V.cell? ⟨(bd.add (i * 8)).block, (bd.add (i * 8)).off + 3, none⟩ = some (.int .i64 y.f1.f2.f0) ∧ V.cell? ⟨(bd.add (i * 8)).block, (bd.add (i * 8)).off + 4, none⟩ = some (.int .i64 y.f1.f2.f1) ∧ V.cell? ⟨(bd.add (i * 8)).block, (bd.add (i * 8)).off + 5, none⟩ = some (.int .i64 y.f1.f2.f2) ∧ V.cell? ⟨(bd.add (i * 8)).block, (bd.add (i * 8)).off + 6, none⟩ = some (.int .i64 y.f1.f3) ∧ V.cell? ⟨(bd.add (i * 8)).block, (bd.add (i * 8)).off + 7, none⟩ = some (.slice B1 y.f2.length d1) := fun V hV => ⟨(H0.out V (h0d.trans (hV.mono h0d.size))).2.2.2.2.2.2.2, (H1.out V (h0d.trans (hV.mono h0d.size))).2.2.2.2.2.2.2, pw_cell_below hV hcs.1, pw_cell_below hV hcs.2.1, pw_cell_below hV hcs.2.2.1, pw_cell_below hV hcs.2.2.2.1, pw_cell_below hV hcs.2.2.2.2.1, pw_cell_below hV hcs.2.2.2.2.2.1, pw_cell_below hV hcs.2.2.2.2.2.2.1, pw_cell_below hV hcs.2.2.2.2.2.2.2, pw_cell_below hV hds.1, pw_cell_below hV hds.2.1, pw_cell_below hV hds.2.2.1, pw_cell_below hV hds.2.2.2.1, pw_cell_below hV hds.2.2.2.2.1, pw_cell_below hV hds.2.2.2.2.2.1, pw_cell_below hV hds.2.2.2.2.2.2.1, pw_cell_below hV hds.2.2.2.2.2.2.2⟩
        have HSA := Lib.hid hSall
        have HS := Lib.hid (hSall Wd (Below.refl _ _))
        have HWd := Lib.hid hWd
        have HBD := Lib.hid h0d
        have hny : nds y ≤ ndsL x.f2 := ndsL_mem (List.mem_of_getElem? hy)
        have HKC := Lib.hid (IH.out y A1 B1 c1 d1 Wd (by have := HNN.out.1; rw [nds_eq] at this; omega) (by have := HNN.out.2; rw [nds_eq] at this; omega) hl1 hl2 hC1 hD1)
        have g1 : (0 : Int) ≤ (i : Int) := by omega
        have g2 : (i : Int) < (x.f2.length : Int) := by omega
        clear hbd hwd h0d hcs hds hl1 hl2 hC1 hD1 hSall hy hWd hny p0 p1 p2 p3 p4 p5 p6 p7 q0 q1 q2 q3 q4 q5 q6 q7
        refine wp_region_P (fun w' => w'.cell? ⟨w.heap.size, 7, none⟩ = some (.slice (some ad) x.f2.length c) ∧ w'.cell? ⟨w.heap.size + 1, 7, none⟩ = some (.slice (some bd) x.f2.length d) ∧ w'.cell? (ad.add (i * 8)) = some (.int .u8 y.f0) ∧ w'.cell? ⟨(ad.add (i * 8)).block, (ad.add (i * 8)).off + 1, none⟩ = some (.int .u8 y.f1.f0) ∧ w'.cell? ⟨(ad.add (i * 8)).block, (ad.add (i * 8)).off + 2, none⟩ = some (.string y.f1.f1) ∧ w'.cell? ⟨(ad.add (i * 8)).block, (ad.add (i * 8)).off + 3, none⟩ = some (.int .i64 y.f1.f2.f0) ∧ w'.cell? ⟨(ad.add (i * 8)).block, (ad.add (i * 8)).off + 4, none⟩ = some (.int .i64 y.f1.f2.f1) ∧ w'.cell? ⟨(ad.add (i * 8)).block, (ad.add (i * 8)).off + 5, none⟩ = some (.int .i64 y.f1.f2.f2) ∧ w'.cell? ⟨(ad.add (i * 8)).block, (ad.add (i * 8)).off + 6, none⟩ = some (.int .i64 y.f1.f3) ∧ w'.cell? ⟨(ad.add (i * 8)).block, (ad.add (i * 8)).off + 7, none⟩ = some (.slice A1 y.f2.length c1) ∧ w'.cell? (bd.add (i * 8)) = some (.int .u8 y.f0) ∧ w'.cell? ⟨(bd.add (i * 8)).block, (bd.add (i * 8)).off + 1, none⟩ = some (.int .u8 y.f1.f0) ∧ w'.cell? ⟨(bd.add (i * 8)).block, (bd.add (i * 8)).off + 2, none⟩ = some (.string y.f1.f1) ∧ w'.cell? ⟨(bd.add (i * 8)).block, (bd.add (i * 8)).off + 3, none⟩ = some (.int .i64 y.f1.f2.f0) ∧ w'.cell? ⟨(bd.add (i * 8)).block, (bd.add (i * 8)).off + 4, none⟩ = some (.int .i64 y.f1.f2.f1) ∧ w'.cell? ⟨(bd.add (i * 8)).block, (bd.add (i * 8)).off + 5, none⟩ = some (.int .i64 y.f1.f2.f2) ∧ w'.cell? ⟨(bd.add (i * 8)).block, (bd.add (i * 8)).off + 6, none⟩ = some (.int .i64 y.f1.f3) ∧ w'.cell? ⟨(bd.add (i * 8)).block, (bd.add (i * 8)).off + 7, none⟩ = some (.slice B1 y.f2.length d1)) (fun _ => true) (by kernel_rfl) ?_
        rw [HWd.out]
        refine anyP_take (i := 0) (oi := { dst := some 35, op := Go.Op.fieldAddr 35 (Go.Operand.tmp 2) 2, type := 0, pos := "ref.go:155", after := #[], guard := none }) (v := ?_) rfl (by kernel_rfl) (fun _ _ _ h => h) (Or.inl ⟨by rfl, ?_⟩) HS.out ?_
        rotate_left
        · intro w9 hSw; (try dsimp only at hSw); go_simp; try (with_reducible rfl)
        try simp only [Act.put, List.setIfInBounds_toArray, List.set_cons_zero, List.set_cons_succ]
        refine anyP_take (i := 1) (oi := { dst := some 36, op := Go.Op.load 33 (Go.Operand.tmp 35), type := 33, pos := "ref.go:155", after := #[{ on := 0, ground := Go.Ground.data }], guard := none }) (v := ?_) rfl (by kernel_rfl) (fun _ _ _ h => h) (Or.inl ⟨by rfl, ?_⟩) HS.out ?_
        rotate_left
        · intro w9 hSw; (try dsimp only at hSw); go_simp; try (with_reducible rfl)
        try simp only [Act.put, List.setIfInBounds_toArray, List.set_cons_zero, List.set_cons_succ]
        refine anyP_take (i := 2) (oi := { dst := some 37, op := Go.Op.move (Go.Operand.tmp 5), type := 3, pos := "ref.go:155", after := #[], guard := none }) (v := ?_) rfl (by kernel_rfl) (fun _ _ _ h => h) (Or.inl ⟨by rfl, ?_⟩) HS.out ?_
        rotate_left
        · intro w9 hSw; (try dsimp only at hSw); go_simp; try (with_reducible rfl)
        try simp only [Act.put, List.setIfInBounds_toArray, List.set_cons_zero, List.set_cons_succ]
        refine anyP_take (i := 3) (oi := { dst := some 38, op := Go.Op.indexAddr 33 (Go.Operand.tmp 36) (Go.Operand.tmp 37), type := 0, pos := "ref.go:155", after := #[{ on := 1, ground := Go.Ground.data }, { on := 2, ground := Go.Ground.data }], guard := none }) (v := ?_) rfl (by kernel_rfl) (fun _ _ _ h => h) (Or.inl ⟨by rfl, ?_⟩) HS.out ?_
        rotate_left
        · intro w9 hSw; (try dsimp only at hSw); go_simp; try (with_reducible rfl)
        try simp only [Act.put, List.setIfInBounds_toArray, List.set_cons_zero, List.set_cons_succ]
        refine anyP_take (i := 4) (oi := { dst := some 39, op := Go.Op.load 35 (Go.Operand.tmp 38), type := 35, pos := "ref.go:155", after := #[{ on := 3, ground := Go.Ground.data }], guard := none }) (v := ?_) rfl (by kernel_rfl) (fun _ _ _ h => h) (Or.inl ⟨by rfl, ?_⟩) HS.out ?_
        rotate_left
        · intro w9 hSw; (try dsimp only at hSw); go_simp; try (with_reducible rfl)
        try simp only [Act.put, List.setIfInBounds_toArray, List.set_cons_zero, List.set_cons_succ]
        refine anyP_take (i := 5) (oi := { dst := some 40, op := Go.Op.fieldAddr 35 (Go.Operand.tmp 3) 2, type := 0, pos := "ref.go:155", after := #[], guard := none }) (v := ?_) rfl (by kernel_rfl) (fun _ _ _ h => h) (Or.inl ⟨by rfl, ?_⟩) HS.out ?_
        rotate_left
        · intro w9 hSw; (try dsimp only at hSw); go_simp; try (with_reducible rfl)
        try simp only [Act.put, List.setIfInBounds_toArray, List.set_cons_zero, List.set_cons_succ]
        refine anyP_take (i := 6) (oi := { dst := some 41, op := Go.Op.load 33 (Go.Operand.tmp 40), type := 33, pos := "ref.go:155", after := #[{ on := 5, ground := Go.Ground.data }], guard := none }) (v := ?_) rfl (by kernel_rfl) (fun _ _ _ h => h) (Or.inl ⟨by rfl, ?_⟩) HS.out ?_
        rotate_left
        · intro w9 hSw; (try dsimp only at hSw); go_simp; try (with_reducible rfl)
        try simp only [Act.put, List.setIfInBounds_toArray, List.set_cons_zero, List.set_cons_succ]
        refine anyP_take (i := 7) (oi := { dst := some 42, op := Go.Op.move (Go.Operand.tmp 5), type := 3, pos := "ref.go:155", after := #[], guard := none }) (v := ?_) rfl (by kernel_rfl) (fun _ _ _ h => h) (Or.inl ⟨by rfl, ?_⟩) HS.out ?_
        rotate_left
        · intro w9 hSw; (try dsimp only at hSw); go_simp; try (with_reducible rfl)
        try simp only [Act.put, List.setIfInBounds_toArray, List.set_cons_zero, List.set_cons_succ]
        refine anyP_take (i := 8) (oi := { dst := some 43, op := Go.Op.indexAddr 33 (Go.Operand.tmp 41) (Go.Operand.tmp 42), type := 0, pos := "ref.go:155", after := #[{ on := 6, ground := Go.Ground.data }, { on := 7, ground := Go.Ground.data }], guard := none }) (v := ?_) rfl (by kernel_rfl) (fun _ _ _ h => h) (Or.inl ⟨by rfl, ?_⟩) HS.out ?_
        rotate_left
        · intro w9 hSw; (try dsimp only at hSw); go_simp; try (with_reducible rfl)
        try simp only [Act.put, List.setIfInBounds_toArray, List.set_cons_zero, List.set_cons_succ]
        refine anyP_take (i := 9) (oi := { dst := some 44, op := Go.Op.load 35 (Go.Operand.tmp 43), type := 35, pos := "ref.go:155", after := #[{ on := 8, ground := Go.Ground.data }], guard := none }) (v := ?_) rfl (by kernel_rfl) (fun _ _ _ h => h) (Or.inl ⟨by rfl, ?_⟩) HS.out ?_
        rotate_left
        · intro w9 hSw; (try dsimp only at hSw); go_simp; try (with_reducible rfl)
        try simp only [Act.put, List.setIfInBounds_toArray, List.set_cons_zero, List.set_cons_succ]
        refine anyP_ready (rs := [10]) (by kernel_rfl) (by simp) ?_
        refine ReadyP.cons (o := { dst := some 45, op := Go.Op.call { callee := Go.Callee.value (Go.Operand.func 11), args := #[Go.Operand.tmp 39, Go.Operand.tmp 44], argTypes := #[35, 35] }, type := 4, pos := "ref.go:155", after := #[{ on := 4, ground := Go.Ground.data }, { on := 9, ground := Go.Ground.data }], guard := none }) rfl (fun K hK => ?_) ReadyP.nil
        go_simp
        refine (HKC.out).mono ?_
        rintro e w2 ⟨rfl, hb2⟩
        refine hK.out _ _ (fun _ => HSA.out w2 hb2) ?_
        have HS2 := Lib.hid (HSA.out w2 hb2)
        have HB2 := Lib.hid (HBD.out.trans (hb2.mono HBD.out.size))
        clear hK K hb2
        try simp only [Act.put, List.setIfInBounds_toArray, List.set_cons_zero, List.set_cons_succ]
        refine anyP_take (i := 11) (oi := { dst := some 6, op := Go.Op.assign (Go.Operand.tmp 45), type := 4, pos := "ref.go:155", after := #[{ on := 10, ground := Go.Ground.data }, { on := 10, ground := Go.Ground.chain }, { on := 0, ground := Go.Ground.phase }, { on := 1, ground := Go.Ground.phase }, { on := 2, ground := Go.Ground.phase }, { on := 3, ground := Go.Ground.phase }, { on := 4, ground := Go.Ground.phase }, { on := 5, ground := Go.Ground.phase }, { on := 6, ground := Go.Ground.phase }, { on := 7, ground := Go.Ground.phase }, { on := 8, ground := Go.Ground.phase }, { on := 9, ground := Go.Ground.phase }, { on := 10, ground := Go.Ground.phase }], guard := none }) (v := ?_) rfl (by kernel_rfl) (fun _ _ _ h => h) (Or.inl ⟨by rfl, ?_⟩) HS2.out ?_
        rotate_left
        · intro w9 hSw; (try dsimp only at hSw); go_simp; try (with_reducible rfl)
        try simp only [Act.put, List.setIfInBounds_toArray, List.set_cons_zero, List.set_cons_succ]
        refine anyP_done (by kernel_rfl) ?_ _
        try simp only [Exit.then]
        go_wp2
        go_roundw
        case rel => exact ⟨i + 1, by omega, by go_num, HB2⟩
        case measure => simp [intOf] <;> omega
      · have dlt : decide (i < x.f2.length) = false := decide_eq_false hlt
        obtain rfl : i = x.f2.length := by omega
        go_wp2
        go_ret
        exact ⟨rfl, HB0.out.trans (HR.out.mono HB0.out.size)⟩
end Go.Proofs.Ytfefldkljbbbpaa
