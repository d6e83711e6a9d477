/- ParseNests: the walk. (Printed by genns.py.) -/
import Derived.Test.YtmjbpgnjgblnmaaNs0
set_option linter.unusedVariables false
set_option linter.unusedSimpArgs false
namespace Go.Proofs.Ytmjbpgnjgblnmaa
open Go.RowKit Go.Proofs.YtmjbpgnjgblnmaaW.PrintWords Go.Proofs.YtmjbpgnjgblnmaaW.PrintLast Go.Proofs.YtmjbpgnjgblnmaaW.PrintMore

theorem row_max {w : World} {base : Nat} {e : TypeId} {size n : Nat} {v : Value} {xs : List Value} (h : w.ownsRow base e size v n xs) : n ≤ 9223372036854775807 := by
  rcases h.2 with ⟨_, hn⟩ | ⟨g, cap, cur, rfl, hb, hh, hl, hm, hs, ht⟩
  · omega
  · simp only [maxLen] at hm
    omega
theorem open_nums {R capo : Nat} (hm : R + 1 ≤ 1000) (hc : R + 1 ≤ capo) : (R : Int) ≤ 999 ∧ ¬ ((1000 : Int) < (R : Int)) ∧ ((R : Int) + 1 == 0) = false ∧ ¬ ((R : Int) + 1 = 0) ∧ IntKind.i64.wrap (R : Int) = (R : Int) ∧ wrap64 (R : Int) = (R : Int) ∧ (0 : Int) ≤ (R : Int) ∧ (R : Int) < (R : Int) + 1 ∧ (R : Int) ≤ (capo : Int) := by
  simp only [IntKind.wrap_i64, beq_eq_false_iff_ne]
  unfold wrap64
  omega
set_option maxRecDepth 100000 in
set_option maxHeartbeats 8000000 in
theorem nests_any (A : Option Addr) (c : Nat) (l : List Tk) (w : World) (hC : Kd.C kTk w A l.length l) (hc : l.length ≤ c) (hl : l.length ≤ 1048576) :
    Calls Try.prog 4 #[.slice A l.length c] w fun e w' => e = .returned (.bool true) ∧ Below w.heap.size w w' := by
  obtain ⟨op', hn1, hn2, hn3, hn4⟩ := all_nest l newPar [] newPar_inv
  have hall : ∀ w1, Below w.heap.size w w1 → Calls Try.prog 14 #[.slice A l.length c] w1 (AllPost l w1) := fun w1 hb => all_any A c l w1 (Kd.C_below hC hb) hc hl
  unfold AllPost at hall
  obtain ⟨⟨E, er, n⟩, hap⟩ : ∃ ap, allP newPar l = ap := ⟨_, rfl⟩
  rw [hap] at hn1 hn2 hn3 hn4 hall
  dsimp only at hn1 hn2 hn3 hn4 hall
  have HC := Lib.hid hC
  have HL := Lib.hid hl
  have HN1 : Hid (nest true [] l E = some (cst op', l.drop n)) := Lib.hid hn1
  have HN := Lib.hid (And.intro hn2 (And.intro hn3 hn4))
  have HALL := Lib.hid hall
  have HAW := Lib.hid (awake_any w)
  have gl : ¬ ((1048576 : Int) < (l.length : Int)) := by omega
  clear hC hc hl hn1 hn2 hn3 hn4 hall hap
  go_enter Try.func4, Try.ntmps4
  go_wp2_with (first
    | (go_at_call 8; (with_reducible refine Calls.mono HAW.out ?_); rintro e w1 ⟨rfl, hb1⟩; have HB1 := Lib.hid hb1; clear hb1)
    | (go_at_call 14; (with_reducible refine Calls.mono (HALL.out _ HB1.out) ?_); rintro e W1 ⟨v, rfl, hv, hb2⟩; have HV := Lib.hid hv; have HB2 := Lib.hid (HB1.out.trans (hb2.mono HB1.out.size)); clear hv hb2))
  clear HALL HAW gl
  have HC1 := Lib.hid (Kd.C_below HC.out HB2.out)
  obtain ⟨Av, cv, hvv, hcv⟩ := row_slice HV.out
  subst hvv
  have HI0 : Hid (NestI W1 l E (cst op', l.drop n) 0 W1 [] 0 (.slice none 0 0)) := Lib.hid ⟨by rw [List.drop_zero, List.drop_zero]; exact HN1.out, Below.refl _ _, nil_row _ _ _ _, Nat.zero_le _, Nat.zero_le _⟩
  go_loopw [7, 8, 9] (fun v7 v8 v9 wr => ∃ i : Nat, i ≤ E.length ∧ v9 = .int .i64 i ∧ ∃ k : Nat, v8 = .int .i64 k ∧ Hid (∃ o, NestI W1 l E (cst op', l.drop n) i wr o k v7)) (fun v7 v8 v9 _ => E.length - (intOf v9).toNat)
  case atStart => exact ⟨0, Nat.zero_le _, rfl, 0, rfl, Lib.hid ⟨_, HI0.out⟩⟩
  case round =>
    obtain ⟨i, hi, rfl, k, rfl, H⟩ := hrel
    obtain ⟨o, H⟩ := H.out
    by_cases hlt : i < E.length
    · obtain ⟨e, he⟩ : ∃ e, E[i]? = some e := ⟨_, List.getElem?_eq_getElem hlt⟩
      obtain ⟨gv, cv2, hvv, hcells⟩ := ev_at HV.out he
      injection hvv with h1 h2 h3
      subst h1; subst h3
      clear h2
      have hrun := H.run
      rw [drop_get he] at hrun
      have HEC := Lib.hid (hcells wr H.below)
      have g1 : (i : Int) < (E.length : Int) := by omega
      have g2 : (0 : Int) ≤ (i : Int) := by omega
      have hmax := row_max HV.out
      have g3 : wrap64 ((i : Int) + 1) = (i : Int) + 1 := by unfold wrap64; omega
      have g4 : IntKind.i64.wrap ((i : Int) + 1) = (i : Int) + 1 := by rw [IntKind.wrap_i64]; omega
      have HH := Lib.hid H
      have HBX := Lib.hid (box_new (Below.refl _ wr) 46 [.int .u8 0, .int .u8 0, .int .u8 0, .string ⟨#[]⟩, .int .i64 0, .int .i64 0, .int .i64 0, .int .i64 0] (evCells e) rfl)
      clear hcells H HI0 he hmax
      rcases nest_kinds hrun with ⟨kk, rfl, hb, ho1, hrest⟩ | ⟨kk, o', rfl, rfl, hrest⟩ | ⟨t, l', kd, nt, rfl, hkd, hl', hnt, hon, hrest⟩
      · skip
        have HEC' := HEC.out
        obtain ⟨c0, c1, c2, c3, c4, c5, c6, c7⟩ := eight HEC'
        clear HEC'
        rw [Nat.add_zero] at c0
        (try dsimp only [noTk] at c0 c1 c2 c3 c4 c5 c6 c7)
        have HR := Lib.hid hrest
        clear hrest hrun
        have HO1 := Lib.hid ho1
        have m1 : (o.length : Int) ≤ 999 := by omega
        have m2 : ¬ ((1000 : Int) < (o.length : Int) + 1) := by omega
        clear ho1
        by_cases hi0 : i = 0
        · obtain rfl : kk = 1 := hb.1 (by simp [hi0])
          have n1 : ((i : Int) == 0) = true := by rw [beq_iff_eq]; omega
          clear hb hi0
          go_wp2_with (first
            | ((with_reducible refine gate_ (.store 46 (.tmp 10) (.tmp 36)) rfl ?_); refine wl_cells rfl rfl _ _ _ rfl (g := wr.heap.size) (off := 0) (.agg (evCells (⟨1, 1, noTk⟩ : Ev)).toArray) (evCells (⟨1, 1, noTk⟩ : Ev)) rfl rfl rfl (by kernel_rfl) (evCells_one _) HBX.out.1.choose_spec.1 HBX.out.1.choose_spec.2 ?_; intro V hV; obtain ⟨hbv, hbx⟩ := HBX.out.2 V hV; have HBV := Lib.hid hbv; have HX := Lib.hid hbx; clear hV hbv hbx c0 c1 c2 c3 c4 c5 c6 c7; obtain ⟨x0, x1, x2, x3, x4, x5, x6, x7⟩ := box_cells HX.out; (try dsimp only [noTk] at x0 x1 x2 x3 x4 x5 x6 x7))
            | ((with_reducible refine gate_dst (N := 57) rfl ?_); refine print_append_cells (w0 := W1) W1.heap.size rfl (.tmp 53) (.tmp 56) 42 44 _ 1 1 rfl Try.underlying42 infoNk rfl (by decide) (by decide) _ o.length (nkCells o) [.int .u8 1] rfl rfl rfl (fun v hv => by rw [List.mem_singleton.1 hv]; rfl) (own_move HH.out.open_ (fun q hq => HBV.out.block q (own_lt HH.out.open_ q hq))) (HH.out.below.trans (HBV.out.mono HH.out.below.size)) (Nat.le_trans HH.out.below.size HBV.out.size) (by have := HO1.out; omega) ?_; intro v3 w3 ho hb3 hg hat; have HN3 : Hid (NestI W1 l E (cst op', l.drop n) (i + 1) w3 (1 :: o) k v3) := Lib.hid ⟨by simpa using HR.out, hb3, by rw [nk_cons]; exact ho, by have := HO1.out; rw [List.length_cons]; omega, HH.out.kle⟩; obtain ⟨A3, c3, rfl, -⟩ := row_slice ho; clear ho hb3 hg hat x0 x1 x2 x3 x4 x5 x6 x7))
          go_roundw
          case rel => exact ⟨i + 1, by omega, by go_num, k, by first | rfl | go_num, Lib.hid ⟨_, HN3.out⟩⟩
          case measure => simp [intOf] <;> omega
        · have hk1 : ¬ kk = 1 := fun h => hi0 (by simpa using hb.2 h)
          have n1 : ((i : Int) == 0) = false := by rw [beq_eq_false_iff_ne]; omega
          have n2 : ¬ ((i : Int) = 0) := by omega
          have n3 : (kk == 1) = false := by rw [beq_eq_false_iff_ne]; exact hk1
          clear hb
          go_wp2_with (first
            | ((with_reducible refine gate_ (.store 46 (.tmp 10) (.tmp 36)) rfl ?_); refine wl_cells rfl rfl _ _ _ rfl (g := wr.heap.size) (off := 0) (.agg (evCells (⟨1, kk, noTk⟩ : Ev)).toArray) (evCells (⟨1, kk, noTk⟩ : Ev)) rfl rfl rfl (by kernel_rfl) (evCells_one _) HBX.out.1.choose_spec.1 HBX.out.1.choose_spec.2 ?_; intro V hV; obtain ⟨hbv, hbx⟩ := HBX.out.2 V hV; have HBV := Lib.hid hbv; have HX := Lib.hid hbx; clear hV hbv hbx c0 c1 c2 c3 c4 c5 c6 c7; obtain ⟨x0, x1, x2, x3, x4, x5, x6, x7⟩ := box_cells HX.out; (try dsimp only [noTk] at x0 x1 x2 x3 x4 x5 x6 x7))
            | ((with_reducible refine gate_dst (N := 57) rfl ?_); refine print_append_cells (w0 := W1) W1.heap.size rfl (.tmp 53) (.tmp 56) 42 44 _ 1 1 rfl Try.underlying42 infoNk rfl (by decide) (by decide) _ o.length (nkCells o) [.int .u8 kk] rfl rfl rfl (fun v hv => by rw [List.mem_singleton.1 hv]; rfl) (own_move HH.out.open_ (fun q hq => HBV.out.block q (own_lt HH.out.open_ q hq))) (HH.out.below.trans (HBV.out.mono HH.out.below.size)) (Nat.le_trans HH.out.below.size HBV.out.size) (by have := HO1.out; omega) ?_; intro v3 w3 ho hb3 hg hat; have HN3 : Hid (NestI W1 l E (cst op', l.drop n) (i + 1) w3 (kk :: o) k v3) := Lib.hid ⟨by simpa using HR.out, hb3, by rw [nk_cons]; exact ho, by have := HO1.out; rw [List.length_cons]; omega, HH.out.kle⟩; obtain ⟨A3, c3, rfl, -⟩ := row_slice ho; clear ho hb3 hg hat x0 x1 x2 x3 x4 x5 x6 x7))
          go_roundw
          case rel => exact ⟨i + 1, by omega, by go_num, k, by first | rfl | go_num, Lib.hid ⟨_, HN3.out⟩⟩
          case measure => simp [intOf] <;> omega
      · skip
        have HEC' := HEC.out
        obtain ⟨c0, c1, c2, c3, c4, c5, c6, c7⟩ := eight HEC'
        clear HEC'
        rw [Nat.add_zero] at c0
        (try dsimp only [noTk] at c0 c1 c2 c3 c4 c5 c6 c7)
        have HR := Lib.hid hrest
        clear hrest hrun
        obtain ⟨go, capo, hvo, hcapo, hco, hgo, hcut⟩ := row_top1 (by have h := HH.out.open_; rw [nk_cons] at h; exact h) (nk_len o')
        subst hvo
        obtain ⟨R, hR⟩ : ∃ R, o'.length = R := ⟨_, rfl⟩
        rw [hR] at hcapo hco hcut
        have HCUT := Lib.hid hcut
        have HCO := Lib.hid (And.intro hco hgo)
        have HRL := Lib.hid hR
        have hm := HH.out.most
        rw [List.length_cons, hR] at hm
        rw [hR]
        obtain ⟨m1, m2, m3, m4, m5, m6, m7, m8, m9⟩ := open_nums hm hcapo
        clear hcapo hco hgo hcut hR hm
        go_upto_region 18 with (first
          | ((with_reducible refine gate_ (.store 46 (.tmp 10) (.tmp 36)) rfl ?_); refine wl_cells rfl rfl _ _ _ rfl (g := wr.heap.size) (off := 0) (.agg (evCells (⟨3, kk, noTk⟩ : Ev)).toArray) (evCells (⟨3, kk, noTk⟩ : Ev)) rfl rfl rfl (by kernel_rfl) (evCells_one _) HBX.out.1.choose_spec.1 HBX.out.1.choose_spec.2 ?_; intro V hV; obtain ⟨hbv, hbx⟩ := HBX.out.2 V hV; have HBV := Lib.hid hbv; have HX := Lib.hid hbx; clear hV hbv hbx c0 c1 c2 c3 c4 c5 c6 c7; obtain ⟨x0, x1, x2, x3, x4, x5, x6, x7⟩ := box_cells HX.out; (try dsimp only [noTk] at x0 x1 x2 x3 x4 x5 x6 x7)))
        obtain ⟨Vd, hVd⟩ : ∃ W, V.drew = W := ⟨_, rfl⟩
        have hbd : Below V.heap.size V Vd := by rw [← hVd]; exact (Below.refl _ V).drew
        have hcV : V.cell? ⟨go, R, none⟩ = some (.int .u8 kk) := (World.cell?_of_block (HBV.out.block go HCO.out.2)).trans HCO.out.1
        have HS := Lib.hid (show Vd.cell? ⟨go, R, none⟩ = some (.int .u8 kk) ∧ Vd.cell? ⟨wr.heap.size, 1, none⟩ = some (.int .u8 kk) ∧ Vd.cell? ⟨wr.heap.size, 2, none⟩ = some (.int .u8 0) ∧ Vd.cell? ⟨wr.heap.size, 3, none⟩ = some (.string ⟨#[]⟩) ∧ Vd.cell? ⟨wr.heap.size, 4, none⟩ = some (.int .i64 0) ∧ Vd.cell? ⟨wr.heap.size, 5, none⟩ = some (.int .i64 0) ∧ Vd.cell? ⟨wr.heap.size, 6, none⟩ = some (.int .i64 0) ∧ Vd.cell? ⟨wr.heap.size, 7, none⟩ = some (.int .i64 0) from ⟨pw_cell_below hbd hcV, pw_cell_below hbd x1, pw_cell_below hbd x2, pw_cell_below hbd x3, pw_cell_below hbd x4, pw_cell_below hbd x5, pw_cell_below hbd x6, pw_cell_below hbd x7⟩)
        have HBD := Lib.hid (HBV.out.trans (hbd.mono HBV.out.size))
        have HVd := Lib.hid hVd
        clear hbd hcV hVd
        refine wp_region_R (fun w' => w'.cell? ⟨go, R, none⟩ = some (.int .u8 kk) ∧ w'.cell? ⟨wr.heap.size, 1, none⟩ = some (.int .u8 kk) ∧ w'.cell? ⟨wr.heap.size, 2, none⟩ = some (.int .u8 0) ∧ w'.cell? ⟨wr.heap.size, 3, none⟩ = some (.string ⟨#[]⟩) ∧ w'.cell? ⟨wr.heap.size, 4, none⟩ = some (.int .i64 0) ∧ w'.cell? ⟨wr.heap.size, 5, none⟩ = some (.int .i64 0) ∧ w'.cell? ⟨wr.heap.size, 6, none⟩ = some (.int .i64 0) ∧ w'.cell? ⟨wr.heap.size, 7, none⟩ = some (.int .i64 0)) (fun _ => true) (by kernel_rfl) ?_
        rw [HVd.out]
        refine anyR_take (i := 0) (oi := { dst := some 60, op := Go.Op.move (Go.Operand.tmp 7), type := 42, pos := "law.go:172", after := #[], guard := none }) (v := ?_) rfl (by kernel_rfl) (fun _ _ _ h => h) (Or.inl ⟨by rfl, ?_⟩) HS.out ?_
        rotate_left
        · intro w9 hSw; (try dsimp only at hSw); go_simp; try (with_reducible rfl)
        try simp only [Act.put, List.setIfInBounds_toArray, List.set_cons_zero, List.set_cons_succ]
        refine anyR_take (i := 1) (oi := { dst := some 61, op := Go.Op.call { callee := Go.Callee.builtin Go.Builtin.len, args := #[Go.Operand.tmp 60], argTypes := #[42] }, type := 3, pos := "law.go:172", after := #[{ on := 0, ground := Go.Ground.data }], guard := none }) (v := ?_) rfl (by kernel_rfl) (fun _ _ _ h => h) (Or.inl ⟨by rfl, ?_⟩) HS.out ?_
        rotate_left
        · intro w9 hSw; (try dsimp only at hSw); go_simp; try (with_reducible rfl)
        try simp only [Act.put, List.setIfInBounds_toArray, List.set_cons_zero, List.set_cons_succ]
        refine anyR_take (i := 2) (oi := { dst := some 62, op := Go.Op.binOp Go.BinOp.eql 3 (Go.Operand.tmp 61) (Go.Operand.const (Go.Value.int Go.IntKind.i64 0)) 3, type := 4, pos := "law.go:172", after := #[{ on := 1, ground := Go.Ground.data }], guard := none }) (v := ?_) rfl (by kernel_rfl) (fun _ _ _ h => h) (Or.inl ⟨by rfl, ?_⟩) HS.out ?_
        rotate_left
        · intro w9 hSw; (try dsimp only at hSw); go_simp; try (with_reducible rfl)
        try simp only [Act.put, List.setIfInBounds_toArray, List.set_cons_zero, List.set_cons_succ]
        refine anyR_take (i := 3) (oi := { dst := some 63, op := Go.Op.move (Go.Operand.tmp 62), type := 4, pos := "law.go:172", after := #[{ on := 2, ground := Go.Ground.data }], guard := none }) (v := ?_) rfl (by kernel_rfl) (fun _ _ _ h => h) (Or.inl ⟨by rfl, ?_⟩) HS.out ?_
        rotate_left
        · intro w9 hSw; (try dsimp only at hSw); go_simp; try (with_reducible rfl)
        try simp only [Act.put, List.setIfInBounds_toArray, List.set_cons_zero, List.set_cons_succ]
        refine anyR_take (i := 4) (oi := { dst := some 64, op := Go.Op.move (Go.Operand.tmp 7), type := 42, pos := "law.go:172", after := #[{ on := 3, ground := Go.Ground.guard }], guard := some (3, false) }) (v := ?_) rfl (by kernel_rfl) (fun _ _ _ h => h) (Or.inl ⟨by rfl, ?_⟩) HS.out ?_
        rotate_left
        · intro w9 hSw; (try dsimp only at hSw); go_simp; try (with_reducible rfl)
        try simp only [Act.put, List.setIfInBounds_toArray, List.set_cons_zero, List.set_cons_succ]
        refine anyR_take (i := 5) (oi := { dst := some 65, op := Go.Op.move (Go.Operand.tmp 7), type := 42, pos := "law.go:172", after := #[{ on := 3, ground := Go.Ground.guard }], guard := some (3, false) }) (v := ?_) rfl (by kernel_rfl) (fun _ _ _ h => h) (Or.inl ⟨by rfl, ?_⟩) HS.out ?_
        rotate_left
        · intro w9 hSw; (try dsimp only at hSw); go_simp; try (with_reducible rfl)
        try simp only [Act.put, List.setIfInBounds_toArray, List.set_cons_zero, List.set_cons_succ]
        refine anyR_take (i := 6) (oi := { dst := some 66, op := Go.Op.call { callee := Go.Callee.builtin Go.Builtin.len, args := #[Go.Operand.tmp 65], argTypes := #[42] }, type := 3, pos := "law.go:172", after := #[{ on := 5, ground := Go.Ground.data }, { on := 3, ground := Go.Ground.guard }], guard := some (3, false) }) (v := ?_) rfl (by kernel_rfl) (fun _ _ _ h => h) (Or.inl ⟨by rfl, ?_⟩) HS.out ?_
        rotate_left
        · intro w9 hSw; (try dsimp only at hSw); go_simp; try (with_reducible rfl)
        try simp only [Act.put, List.setIfInBounds_toArray, List.set_cons_zero, List.set_cons_succ]
        refine anyR_take (i := 7) (oi := { dst := some 67, op := Go.Op.binOp Go.BinOp.sub 3 (Go.Operand.tmp 66) (Go.Operand.const (Go.Value.int Go.IntKind.i64 1)) 3, type := 3, pos := "law.go:172", after := #[{ on := 6, ground := Go.Ground.data }, { on := 3, ground := Go.Ground.guard }], guard := some (3, false) }) (v := ?_) rfl (by kernel_rfl) (fun _ _ _ h => h) (Or.inl ⟨by rfl, ?_⟩) HS.out ?_
        rotate_left
        · intro w9 hSw; (try dsimp only at hSw); go_simp; try (with_reducible rfl)
        try simp only [Act.put, List.setIfInBounds_toArray, List.set_cons_zero, List.set_cons_succ]
        refine anyR_take (i := 8) (oi := { dst := some 68, op := Go.Op.indexAddr 42 (Go.Operand.tmp 64) (Go.Operand.tmp 67), type := 0, pos := "law.go:172", after := #[{ on := 4, ground := Go.Ground.data }, { on := 7, ground := Go.Ground.data }, { on := 3, ground := Go.Ground.guard }], guard := some (3, false) }) (v := ?_) rfl (by kernel_rfl) (fun _ _ _ h => h) (Or.inl ⟨by rfl, ?_⟩) HS.out ?_
        rotate_left
        · intro w9 hSw; (try dsimp only at hSw); go_simp; try (with_reducible rfl)
        try simp only [Act.put, List.setIfInBounds_toArray, List.set_cons_zero, List.set_cons_succ]
        refine anyR_take (i := 9) (oi := { dst := some 69, op := Go.Op.load 44 (Go.Operand.tmp 68), type := 44, pos := "law.go:172", after := #[{ on := 8, ground := Go.Ground.data }, { on := 3, ground := Go.Ground.guard }], guard := some (3, false) }) (v := ?_) rfl (by kernel_rfl) (fun _ _ _ h => h) (Or.inl ⟨by rfl, ?_⟩) HS.out ?_
        rotate_left
        · intro w9 hSw; (try dsimp only at hSw); go_simp; try (with_reducible rfl)
        try simp only [Act.put, List.setIfInBounds_toArray, List.set_cons_zero, List.set_cons_succ]
        refine anyR_take (i := 10) (oi := { dst := some 70, op := Go.Op.fieldAddr 46 (Go.Operand.tmp 10) 1, type := 0, pos := "law.go:172", after := #[{ on := 3, ground := Go.Ground.guard }], guard := some (3, false) }) (v := ?_) rfl (by kernel_rfl) (fun _ _ _ h => h) (Or.inl ⟨by rfl, ?_⟩) HS.out ?_
        rotate_left
        · intro w9 hSw; (try dsimp only at hSw); go_simp; try (with_reducible rfl)
        try simp only [Act.put, List.setIfInBounds_toArray, List.set_cons_zero, List.set_cons_succ]
        refine anyR_take (i := 11) (oi := { dst := some 71, op := Go.Op.load 44 (Go.Operand.tmp 70), type := 44, pos := "law.go:172", after := #[{ on := 10, ground := Go.Ground.data }, { on := 3, ground := Go.Ground.guard }], guard := some (3, false) }) (v := ?_) rfl (by kernel_rfl) (fun _ _ _ h => h) (Or.inl ⟨by rfl, ?_⟩) HS.out ?_
        rotate_left
        · intro w9 hSw; (try dsimp only at hSw); go_simp; try (with_reducible rfl)
        try simp only [Act.put, List.setIfInBounds_toArray, List.set_cons_zero, List.set_cons_succ]
        refine anyR_take (i := 12) (oi := { dst := some 72, op := Go.Op.binOp Go.BinOp.neq 44 (Go.Operand.tmp 69) (Go.Operand.tmp 71) 44, type := 4, pos := "law.go:172", after := #[{ on := 9, ground := Go.Ground.data }, { on := 11, ground := Go.Ground.data }, { on := 3, ground := Go.Ground.guard }], guard := some (3, false) }) (v := ?_) rfl (by kernel_rfl) (fun _ _ _ h => h) (Or.inl ⟨by rfl, ?_⟩) HS.out ?_
        rotate_left
        · intro w9 hSw; (try dsimp only at hSw); go_simp; try (with_reducible rfl)
        try simp only [Act.put, List.setIfInBounds_toArray, List.set_cons_zero, List.set_cons_succ]
        refine anyR_take (i := 13) (oi := { dst := some 73, op := Go.Op.pick (Go.Operand.tmp 63) (Go.Operand.const (Go.Value.bool true)) (Go.Operand.tmp 72), type := 4, pos := "law.go:172", after := #[{ on := 3, ground := Go.Ground.data }, { on := 12, ground := Go.Ground.data }], guard := none }) (v := ?_) rfl (by kernel_rfl) (fun _ _ _ h => h) (Or.inl ⟨by rfl, ?_⟩) HS.out ?_
        rotate_left
        · intro w9 hSw; (try dsimp only at hSw); go_simp; try (with_reducible rfl)
        try simp only [Act.put, List.setIfInBounds_toArray, List.set_cons_zero, List.set_cons_succ]
        refine anyR_take (i := 14) (oi := { dst := some 74, op := Go.Op.move (Go.Operand.tmp 73), type := 4, pos := "law.go:172", after := #[{ on := 13, ground := Go.Ground.data }, { on := 3, ground := Go.Ground.chain }], guard := none }) (v := ?_) rfl (by kernel_rfl) (fun _ _ _ h => h) (Or.inl ⟨by rfl, ?_⟩) HS.out ?_
        rotate_left
        · intro w9 hSw; (try dsimp only at hSw); go_simp; try (with_reducible rfl)
        try simp only [Act.put, List.setIfInBounds_toArray, List.set_cons_zero, List.set_cons_succ]
        refine anyR_take (i := 15) (oi := { dst := some 75, op := Go.Op.fieldAddr 46 (Go.Operand.tmp 10) 2, type := 0, pos := "law.go:172", after := #[{ on := 14, ground := Go.Ground.guard }], guard := some (14, false) }) (v := ?_) rfl (by kernel_rfl) (fun _ _ _ h => h) (Or.inl ⟨by rfl, ?_⟩) HS.out ?_
        rotate_left
        · intro w9 hSw; (try dsimp only at hSw); go_simp; try (with_reducible rfl)
        try simp only [Act.put, List.setIfInBounds_toArray, List.set_cons_zero, List.set_cons_succ]
        refine anyR_take (i := 16) (oi := { dst := some 76, op := Go.Op.load 35 (Go.Operand.tmp 75), type := 35, pos := "law.go:172", after := #[{ on := 15, ground := Go.Ground.data }, { on := 14, ground := Go.Ground.guard }], guard := some (14, false) }) (v := ?_) rfl (by kernel_rfl) (fun _ _ _ h => h) (Or.inl ⟨by rfl, ?_⟩) HS.out ?_
        rotate_left
        · intro w9 hSw; (try dsimp only at hSw); go_simp; try (with_reducible rfl)
        try simp only [Act.put, List.setIfInBounds_toArray, List.set_cons_zero, List.set_cons_succ]
        refine anyR_take (i := 17) (oi := { dst := some 77, op := Go.Op.build 35 #[], type := 35, pos := "law.go:172", after := #[{ on := 14, ground := Go.Ground.guard }], guard := some (14, false) }) (v := ?_) rfl (by kernel_rfl) (fun _ _ _ h => h) (Or.inl ⟨by rfl, ?_⟩) HS.out ?_
        rotate_left
        · intro w9 hSw; (try dsimp only at hSw); go_simp; try (with_reducible rfl)
        try simp only [Act.put, List.setIfInBounds_toArray, List.set_cons_zero, List.set_cons_succ]
        refine anyR_take (i := 18) (oi := { dst := some 78, op := Go.Op.binOp Go.BinOp.neq 35 (Go.Operand.tmp 76) (Go.Operand.tmp 77) 35, type := 4, pos := "law.go:172", after := #[{ on := 16, ground := Go.Ground.data }, { on := 17, ground := Go.Ground.data }, { on := 14, ground := Go.Ground.guard }], guard := some (14, false) }) (v := ?_) rfl (by kernel_rfl) (fun _ _ _ h => h) (Or.inl ⟨by rfl, ?_⟩) HS.out ?_
        rotate_left
        · intro w9 hSw; (try dsimp only at hSw); go_simp; try (with_reducible rfl)
        try simp only [Act.put, List.setIfInBounds_toArray, List.set_cons_zero, List.set_cons_succ]
        refine anyR_take (i := 19) (oi := { dst := some 79, op := Go.Op.pick (Go.Operand.tmp 74) (Go.Operand.const (Go.Value.bool true)) (Go.Operand.tmp 78), type := 4, pos := "law.go:172", after := #[{ on := 14, ground := Go.Ground.data }, { on := 18, ground := Go.Ground.data }], guard := none }) (v := ?_) rfl (by kernel_rfl) (fun _ _ _ h => h) (Or.inl ⟨by rfl, ?_⟩) HS.out ?_
        rotate_left
        · intro w9 hSw; (try dsimp only at hSw); go_simp; try (with_reducible rfl)
        try simp only [Act.put, List.setIfInBounds_toArray, List.set_cons_zero, List.set_cons_succ]
        refine anyR_done (by kernel_rfl) ?_ _
        have HN3 : Hid (NestI W1 l E (cst op', l.drop n) (i + 1) Vd o' k (.slice (some ⟨go, 0, none⟩) R capo)) := Lib.hid ⟨by simpa using HR.out, HH.out.below.trans (HBD.out.mono HH.out.below.size), by rw [HRL.out]; exact own_move HCUT.out (fun q hq => HBD.out.block q (own_lt HCUT.out q hq)), by rw [HRL.out]; omega, HH.out.kle⟩
        clear x0 x1 x2 x3 x4 x5 x6 x7
        go_wp2
        go_roundw
        case rel => exact ⟨i + 1, by omega, by go_num, k, by first | rfl | go_num, Lib.hid ⟨_, HN3.out⟩⟩
        case measure => simp [intOf] <;> omega
      · skip
        have HEC' := HEC.out
        obtain ⟨c0, c1, c2, c3, c4, c5, c6, c7⟩ := eight HEC'
        clear HEC'
        rw [Nat.add_zero] at c0
        (try dsimp only [noTk] at c0 c1 c2 c3 c4 c5 c6 c7)
        have HR := Lib.hid hrest
        clear hrest hrun
        have hkl : k < l.length := by
          rcases Nat.lt_or_ge k l.length with h | h
          · exact h
          · rw [List.drop_of_length_le h] at hl'; cases hl'
        have hdr := drop_rd l k hkl
        rw [hl'] at hdr
        injection hdr with hd1 hd2
        obtain ⟨ad, hA, htc⟩ := tok_cells HC1.out k hkl
        subst hA
        rw [← hd1] at htc
        have HTC := Lib.hid htc
        have HDR := Lib.hid hd2.symm
        have HKL : Hid (k + 1 ≤ l.length) := Lib.hid hkl
        have hlen := HL.out
        have p1 : (k : Int) < (l.length : Int) := by omega
        have p2 : ¬ ((l.length : Int) ≤ (k : Int)) := by omega
        have p3 : (0 : Int) ≤ (k : Int) := by omega
        have p4 : wrap64 ((k : Int) + 1) = (k : Int) + 1 := by unfold wrap64; omega
        have p5 : IntKind.i64.wrap ((k : Int) + 1) = (k : Int) + 1 := by rw [IntKind.wrap_i64]; omega
        obtain ⟨Ao, co, hvo, -⟩ := row_slice HH.out.open_
        subst hvo
        have hol : 0 < o.length := List.length_pos_iff.2 hon
        have hom := HH.out.most
        have p6 : ((o.length : Int) == 0) = false := by rw [beq_eq_false_iff_ne]; omega
        have p7 : ¬ ((o.length : Int) = 0) := by omega
        have p8 : ¬ ((1000 : Int) < (o.length : Int)) := by omega
        unfold isNote at hnt
        obtain ⟨k7, hk7⟩ : ∃ k7, (t.f0 == 7) = k7 := ⟨_, rfl⟩
        obtain ⟨k8, hk8⟩ : ∃ k8, (t.f0 == 8) = k8 := ⟨_, rfl⟩
        rw [hk7, hk8] at hnt
        clear hkl hd1 hd2 htc hl' hlen hol hom hon
        rcases hkd with ⟨rfl, rfl⟩ | ⟨rfl, rfl⟩
        · obtain ⟨rfl, rfl⟩ : k7 = false ∧ k8 = false := by simpa using hnt
          clear hnt
          go_upto_region 24 with (first
            | ((with_reducible refine gate_ (.store 46 (.tmp 10) (.tmp 36)) rfl ?_); refine wl_cells rfl rfl _ _ _ rfl (g := wr.heap.size) (off := 0) (.agg (evCells (⟨2, 0, t⟩ : Ev)).toArray) (evCells (⟨2, 0, t⟩ : Ev)) rfl rfl rfl (by kernel_rfl) (evCells_one _) HBX.out.1.choose_spec.1 HBX.out.1.choose_spec.2 ?_; intro V hV; obtain ⟨hbv, hbx⟩ := HBX.out.2 V hV; have HBV := Lib.hid hbv; have hbv0 := hbv; have HX := Lib.hid hbx; clear hV hbv hbx c0 c1 c2 c3 c4 c5 c6 c7; obtain ⟨x0, x1, x2, x3, x4, x5, x6, x7⟩ := box_cells HX.out; (try dsimp only [noTk] at x0 x1 x2 x3 x4 x5 x6 x7); have HBW := Lib.hid (HH.out.below.trans (hbv0.mono HH.out.below.size)); obtain ⟨l0, l1, l2, l3, l4, l5⟩ := HTC.out V HBW.out; clear hbv0))
          obtain ⟨Vd, hVd⟩ : ∃ W, V.drew = W := ⟨_, rfl⟩
          have hbd : Below V.heap.size V Vd := by rw [← hVd]; exact (Below.refl _ V).drew
          have HS := Lib.hid (show Vd.cell? ⟨wr.heap.size, 0, none⟩ = some (.int .u8 2) ∧ Vd.cell? ⟨wr.heap.size, 1, none⟩ = some (.int .u8 0) ∧ Vd.cell? ⟨wr.heap.size, 2, none⟩ = some (.int .u8 t.f0) ∧ Vd.cell? ⟨wr.heap.size, 3, none⟩ = some (.string t.f1) ∧ Vd.cell? ⟨wr.heap.size, 4, none⟩ = some (.int .i64 t.f2.f0) ∧ Vd.cell? ⟨wr.heap.size, 5, none⟩ = some (.int .i64 t.f2.f1) ∧ Vd.cell? ⟨wr.heap.size, 6, none⟩ = some (.int .i64 t.f2.f2) ∧ Vd.cell? ⟨wr.heap.size, 7, none⟩ = some (.int .i64 t.f3) ∧ Vd.cell? ⟨(ad.add (k * 6)).block, (ad.add (k * 6)).off + 1, none⟩ = some (.string t.f1) ∧ Vd.cell? ⟨(ad.add (k * 6)).block, (ad.add (k * 6)).off + 2, none⟩ = some (.int .i64 t.f2.f0) ∧ Vd.cell? ⟨(ad.add (k * 6)).block, (ad.add (k * 6)).off + 3, none⟩ = some (.int .i64 t.f2.f1) ∧ Vd.cell? ⟨(ad.add (k * 6)).block, (ad.add (k * 6)).off + 4, none⟩ = some (.int .i64 t.f2.f2) ∧ Vd.cell? ⟨(ad.add (k * 6)).block, (ad.add (k * 6)).off + 5, none⟩ = some (.int .i64 t.f3) ∧ Vd.cell? (ad.add (k * 6)) = some (.int .u8 t.f0) from ⟨pw_cell_below hbd x0, pw_cell_below hbd x1, pw_cell_below hbd x2, pw_cell_below hbd x3, pw_cell_below hbd x4, pw_cell_below hbd x5, pw_cell_below hbd x6, pw_cell_below hbd x7, pw_cell_below hbd l1, pw_cell_below hbd l2, pw_cell_below hbd l3, pw_cell_below hbd l4, pw_cell_below hbd l5, pw_cell_below hbd l0⟩)
          have HBD := Lib.hid (HBV.out.trans (hbd.mono HBV.out.size))
          have HVd := Lib.hid hVd
          clear hbd hVd
          refine wp_region_R (fun w' => w'.cell? ⟨wr.heap.size, 0, none⟩ = some (.int .u8 2) ∧ w'.cell? ⟨wr.heap.size, 1, none⟩ = some (.int .u8 0) ∧ w'.cell? ⟨wr.heap.size, 2, none⟩ = some (.int .u8 t.f0) ∧ w'.cell? ⟨wr.heap.size, 3, none⟩ = some (.string t.f1) ∧ w'.cell? ⟨wr.heap.size, 4, none⟩ = some (.int .i64 t.f2.f0) ∧ w'.cell? ⟨wr.heap.size, 5, none⟩ = some (.int .i64 t.f2.f1) ∧ w'.cell? ⟨wr.heap.size, 6, none⟩ = some (.int .i64 t.f2.f2) ∧ w'.cell? ⟨wr.heap.size, 7, none⟩ = some (.int .i64 t.f3) ∧ w'.cell? ⟨(ad.add (k * 6)).block, (ad.add (k * 6)).off + 1, none⟩ = some (.string t.f1) ∧ w'.cell? ⟨(ad.add (k * 6)).block, (ad.add (k * 6)).off + 2, none⟩ = some (.int .i64 t.f2.f0) ∧ w'.cell? ⟨(ad.add (k * 6)).block, (ad.add (k * 6)).off + 3, none⟩ = some (.int .i64 t.f2.f1) ∧ w'.cell? ⟨(ad.add (k * 6)).block, (ad.add (k * 6)).off + 4, none⟩ = some (.int .i64 t.f2.f2) ∧ w'.cell? ⟨(ad.add (k * 6)).block, (ad.add (k * 6)).off + 5, none⟩ = some (.int .i64 t.f3) ∧ w'.cell? (ad.add (k * 6)) = some (.int .u8 t.f0)) (fun _ => true) (by kernel_rfl) ?_
          rw [HVd.out]
          refine anyR_take (i := 0) (oi := { dst := some 108, op := Go.Op.move (Go.Operand.tmp 8), type := 3, pos := "law.go:178", after := #[], guard := none }) (v := ?_) rfl (by kernel_rfl) (fun _ _ _ h => h) (Or.inl ⟨by rfl, ?_⟩) HS.out ?_
          rotate_left
          · intro w9 hSw; (try dsimp only at hSw); go_simp; try (with_reducible rfl)
          try simp only [Act.put, List.setIfInBounds_toArray, List.set_cons_zero, List.set_cons_succ]
          refine anyR_take (i := 1) (oi := { dst := some 109, op := Go.Op.move (Go.Operand.tmp 0), type := 22, pos := "law.go:178", after := #[], guard := none }) (v := ?_) rfl (by kernel_rfl) (fun _ _ _ h => h) (Or.inl ⟨by rfl, ?_⟩) HS.out ?_
          rotate_left
          · intro w9 hSw; (try dsimp only at hSw); go_simp; try (with_reducible rfl)
          try simp only [Act.put, List.setIfInBounds_toArray, List.set_cons_zero, List.set_cons_succ]
          refine anyR_take (i := 2) (oi := { dst := some 110, op := Go.Op.call { callee := Go.Callee.builtin Go.Builtin.len, args := #[Go.Operand.tmp 109], argTypes := #[22] }, type := 3, pos := "law.go:178", after := #[{ on := 1, ground := Go.Ground.data }], guard := none }) (v := ?_) rfl (by kernel_rfl) (fun _ _ _ h => h) (Or.inl ⟨by rfl, ?_⟩) HS.out ?_
          rotate_left
          · intro w9 hSw; (try dsimp only at hSw); go_simp; try (with_reducible rfl)
          try simp only [Act.put, List.setIfInBounds_toArray, List.set_cons_zero, List.set_cons_succ]
          refine anyR_take (i := 3) (oi := { dst := some 111, op := Go.Op.binOp Go.BinOp.geq 3 (Go.Operand.tmp 108) (Go.Operand.tmp 110) 3, type := 4, pos := "law.go:178", after := #[{ on := 0, ground := Go.Ground.data }, { on := 2, ground := Go.Ground.data }], guard := none }) (v := ?_) rfl (by kernel_rfl) (fun _ _ _ h => h) (Or.inl ⟨by rfl, ?_⟩) HS.out ?_
          rotate_left
          · intro w9 hSw; (try dsimp only at hSw); go_simp; try (with_reducible rfl)
          try simp only [Act.put, List.setIfInBounds_toArray, List.set_cons_zero, List.set_cons_succ]
          refine anyR_take (i := 4) (oi := { dst := some 112, op := Go.Op.move (Go.Operand.tmp 111), type := 4, pos := "law.go:178", after := #[{ on := 3, ground := Go.Ground.data }], guard := none }) (v := ?_) rfl (by kernel_rfl) (fun _ _ _ h => h) (Or.inl ⟨by rfl, ?_⟩) HS.out ?_
          rotate_left
          · intro w9 hSw; (try dsimp only at hSw); go_simp; try (with_reducible rfl)
          try simp only [Act.put, List.setIfInBounds_toArray, List.set_cons_zero, List.set_cons_succ]
          refine anyR_take (i := 5) (oi := { dst := some 113, op := Go.Op.fieldAddr 46 (Go.Operand.tmp 10) 2, type := 0, pos := "law.go:178", after := #[{ on := 4, ground := Go.Ground.guard }], guard := some (4, false) }) (v := ?_) rfl (by kernel_rfl) (fun _ _ _ h => h) (Or.inl ⟨by rfl, ?_⟩) HS.out ?_
          rotate_left
          · intro w9 hSw; (try dsimp only at hSw); go_simp; try (with_reducible rfl)
          try simp only [Act.put, List.setIfInBounds_toArray, List.set_cons_zero, List.set_cons_succ]
          refine anyR_take (i := 6) (oi := { dst := some 114, op := Go.Op.load 35 (Go.Operand.tmp 113), type := 35, pos := "law.go:178", after := #[{ on := 5, ground := Go.Ground.data }, { on := 4, ground := Go.Ground.guard }], guard := some (4, false) }) (v := ?_) rfl (by kernel_rfl) (fun _ _ _ h => h) (Or.inl ⟨by rfl, ?_⟩) HS.out ?_
          rotate_left
          · intro w9 hSw; (try dsimp only at hSw); go_simp; try (with_reducible rfl)
          try simp only [Act.put, List.setIfInBounds_toArray, List.set_cons_zero, List.set_cons_succ]
          refine anyR_take (i := 7) (oi := { dst := some 115, op := Go.Op.move (Go.Operand.tmp 0), type := 22, pos := "law.go:178", after := #[{ on := 4, ground := Go.Ground.guard }], guard := some (4, false) }) (v := ?_) rfl (by kernel_rfl) (fun _ _ _ h => h) (Or.inl ⟨by rfl, ?_⟩) HS.out ?_
          rotate_left
          · intro w9 hSw; (try dsimp only at hSw); go_simp; try (with_reducible rfl)
          try simp only [Act.put, List.setIfInBounds_toArray, List.set_cons_zero, List.set_cons_succ]
          refine anyR_take (i := 8) (oi := { dst := some 116, op := Go.Op.move (Go.Operand.tmp 8), type := 3, pos := "law.go:178", after := #[{ on := 4, ground := Go.Ground.guard }], guard := some (4, false) }) (v := ?_) rfl (by kernel_rfl) (fun _ _ _ h => h) (Or.inl ⟨by rfl, ?_⟩) HS.out ?_
          rotate_left
          · intro w9 hSw; (try dsimp only at hSw); go_simp; try (with_reducible rfl)
          try simp only [Act.put, List.setIfInBounds_toArray, List.set_cons_zero, List.set_cons_succ]
          refine anyR_take (i := 9) (oi := { dst := some 117, op := Go.Op.indexAddr 22 (Go.Operand.tmp 115) (Go.Operand.tmp 116), type := 0, pos := "law.go:178", after := #[{ on := 7, ground := Go.Ground.data }, { on := 8, ground := Go.Ground.data }, { on := 4, ground := Go.Ground.guard }], guard := some (4, false) }) (v := ?_) rfl (by kernel_rfl) (fun _ _ _ h => h) (Or.inl ⟨by rfl, ?_⟩) HS.out ?_
          rotate_left
          · intro w9 hSw; (try dsimp only at hSw); go_simp; try (with_reducible rfl)
          try simp only [Act.put, List.setIfInBounds_toArray, List.set_cons_zero, List.set_cons_succ]
          refine anyR_take (i := 10) (oi := { dst := some 118, op := Go.Op.load 35 (Go.Operand.tmp 117), type := 35, pos := "law.go:178", after := #[{ on := 9, ground := Go.Ground.data }, { on := 4, ground := Go.Ground.guard }], guard := some (4, false) }) (v := ?_) rfl (by kernel_rfl) (fun _ _ _ h => h) (Or.inl ⟨by rfl, ?_⟩) HS.out ?_
          rotate_left
          · intro w9 hSw; (try dsimp only at hSw); go_simp; try (with_reducible rfl)
          try simp only [Act.put, List.setIfInBounds_toArray, List.set_cons_zero, List.set_cons_succ]
          refine anyR_take (i := 11) (oi := { dst := some 119, op := Go.Op.binOp Go.BinOp.neq 35 (Go.Operand.tmp 114) (Go.Operand.tmp 118) 35, type := 4, pos := "law.go:178", after := #[{ on := 6, ground := Go.Ground.data }, { on := 10, ground := Go.Ground.data }, { on := 4, ground := Go.Ground.guard }], guard := some (4, false) }) (v := ?_) rfl (by kernel_rfl) (fun _ _ _ h => h) (Or.inl ⟨by rfl, ?_⟩) HS.out ?_
          rotate_left
          · intro w9 hSw; (try dsimp only at hSw); go_simp; try (with_reducible rfl)
          try simp only [Act.put, List.setIfInBounds_toArray, List.set_cons_zero, List.set_cons_succ]
          refine anyR_take (i := 12) (oi := { dst := some 120, op := Go.Op.pick (Go.Operand.tmp 112) (Go.Operand.const (Go.Value.bool true)) (Go.Operand.tmp 119), type := 4, pos := "law.go:178", after := #[{ on := 4, ground := Go.Ground.data }, { on := 11, ground := Go.Ground.data }], guard := none }) (v := ?_) rfl (by kernel_rfl) (fun _ _ _ h => h) (Or.inl ⟨by rfl, ?_⟩) HS.out ?_
          rotate_left
          · intro w9 hSw; (try dsimp only at hSw); go_simp; try (with_reducible rfl)
          try simp only [Act.put, List.setIfInBounds_toArray, List.set_cons_zero, List.set_cons_succ]
          refine anyR_take (i := 13) (oi := { dst := some 121, op := Go.Op.move (Go.Operand.tmp 120), type := 4, pos := "law.go:178", after := #[{ on := 12, ground := Go.Ground.data }, { on := 4, ground := Go.Ground.chain }], guard := none }) (v := ?_) rfl (by kernel_rfl) (fun _ _ _ h => h) (Or.inl ⟨by rfl, ?_⟩) HS.out ?_
          rotate_left
          · intro w9 hSw; (try dsimp only at hSw); go_simp; try (with_reducible rfl)
          try simp only [Act.put, List.setIfInBounds_toArray, List.set_cons_zero, List.set_cons_succ]
          refine anyR_take (i := 14) (oi := { dst := some 122, op := Go.Op.fieldAddr 46 (Go.Operand.tmp 10) 1, type := 0, pos := "law.go:178", after := #[{ on := 13, ground := Go.Ground.guard }], guard := some (13, false) }) (v := ?_) rfl (by kernel_rfl) (fun _ _ _ h => h) (Or.inl ⟨by rfl, ?_⟩) HS.out ?_
          rotate_left
          · intro w9 hSw; (try dsimp only at hSw); go_simp; try (with_reducible rfl)
          try simp only [Act.put, List.setIfInBounds_toArray, List.set_cons_zero, List.set_cons_succ]
          refine anyR_take (i := 15) (oi := { dst := some 123, op := Go.Op.load 44 (Go.Operand.tmp 122), type := 44, pos := "law.go:178", after := #[{ on := 14, ground := Go.Ground.data }, { on := 13, ground := Go.Ground.guard }], guard := some (13, false) }) (v := ?_) rfl (by kernel_rfl) (fun _ _ _ h => h) (Or.inl ⟨by rfl, ?_⟩) HS.out ?_
          rotate_left
          · intro w9 hSw; (try dsimp only at hSw); go_simp; try (with_reducible rfl)
          try simp only [Act.put, List.setIfInBounds_toArray, List.set_cons_zero, List.set_cons_succ]
          refine anyR_take (i := 16) (oi := { dst := some 124, op := Go.Op.binOp Go.BinOp.neq 44 (Go.Operand.tmp 123) (Go.Operand.const (Go.Value.int Go.IntKind.u8 0)) 44, type := 4, pos := "law.go:178", after := #[{ on := 15, ground := Go.Ground.data }, { on := 13, ground := Go.Ground.guard }], guard := some (13, false) }) (v := ?_) rfl (by kernel_rfl) (fun _ _ _ h => h) (Or.inl ⟨by rfl, ?_⟩) HS.out ?_
          rotate_left
          · intro w9 hSw; (try dsimp only at hSw); go_simp; try (with_reducible rfl)
          try simp only [Act.put, List.setIfInBounds_toArray, List.set_cons_zero, List.set_cons_succ]
          refine anyR_take (i := 17) (oi := { dst := some 125, op := Go.Op.pick (Go.Operand.tmp 121) (Go.Operand.const (Go.Value.bool true)) (Go.Operand.tmp 124), type := 4, pos := "law.go:178", after := #[{ on := 13, ground := Go.Ground.data }, { on := 16, ground := Go.Ground.data }], guard := none }) (v := ?_) rfl (by kernel_rfl) (fun _ _ _ h => h) (Or.inl ⟨by rfl, ?_⟩) HS.out ?_
          rotate_left
          · intro w9 hSw; (try dsimp only at hSw); go_simp; try (with_reducible rfl)
          try simp only [Act.put, List.setIfInBounds_toArray, List.set_cons_zero, List.set_cons_succ]
          refine anyR_take (i := 18) (oi := { dst := some 126, op := Go.Op.move (Go.Operand.tmp 125), type := 4, pos := "law.go:178", after := #[{ on := 17, ground := Go.Ground.data }, { on := 13, ground := Go.Ground.chain }], guard := none }) (v := ?_) rfl (by kernel_rfl) (fun _ _ _ h => h) (Or.inl ⟨by rfl, ?_⟩) HS.out ?_
          rotate_left
          · intro w9 hSw; (try dsimp only at hSw); go_simp; try (with_reducible rfl)
          try simp only [Act.put, List.setIfInBounds_toArray, List.set_cons_zero, List.set_cons_succ]
          refine anyR_take (i := 19) (oi := { dst := some 127, op := Go.Op.fieldAddr 46 (Go.Operand.tmp 10) 0, type := 0, pos := "law.go:178", after := #[{ on := 18, ground := Go.Ground.guard }], guard := some (18, false) }) (v := ?_) rfl (by kernel_rfl) (fun _ _ _ h => h) (Or.inl ⟨by rfl, ?_⟩) HS.out ?_
          rotate_left
          · intro w9 hSw; (try dsimp only at hSw); go_simp; try (with_reducible rfl)
          try simp only [Act.put, List.setIfInBounds_toArray, List.set_cons_zero, List.set_cons_succ]
          refine anyR_take (i := 20) (oi := { dst := some 128, op := Go.Op.load 43 (Go.Operand.tmp 127), type := 43, pos := "law.go:178", after := #[{ on := 19, ground := Go.Ground.data }, { on := 18, ground := Go.Ground.guard }], guard := some (18, false) }) (v := ?_) rfl (by kernel_rfl) (fun _ _ _ h => h) (Or.inl ⟨by rfl, ?_⟩) HS.out ?_
          rotate_left
          · intro w9 hSw; (try dsimp only at hSw); go_simp; try (with_reducible rfl)
          try simp only [Act.put, List.setIfInBounds_toArray, List.set_cons_zero, List.set_cons_succ]
          refine anyR_take (i := 21) (oi := { dst := some 129, op := Go.Op.binOp Go.BinOp.eql 43 (Go.Operand.tmp 128) (Go.Operand.const (Go.Value.int Go.IntKind.u8 4)) 43, type := 4, pos := "law.go:178", after := #[{ on := 20, ground := Go.Ground.data }, { on := 18, ground := Go.Ground.guard }], guard := some (18, false) }) (v := ?_) rfl (by kernel_rfl) (fun _ _ _ h => h) (Or.inl ⟨by rfl, ?_⟩) HS.out ?_
          rotate_left
          · intro w9 hSw; (try dsimp only at hSw); go_simp; try (with_reducible rfl)
          try simp only [Act.put, List.setIfInBounds_toArray, List.set_cons_zero, List.set_cons_succ]
          refine anyR_take (i := 22) (oi := { dst := some 130, op := Go.Op.move (Go.Operand.tmp 11), type := 4, pos := "law.go:178", after := #[{ on := 18, ground := Go.Ground.guard }], guard := some (18, false) }) (v := ?_) rfl (by kernel_rfl) (fun _ _ _ h => h) (Or.inl ⟨by rfl, ?_⟩) HS.out ?_
          rotate_left
          · intro w9 hSw; (try dsimp only at hSw); go_simp; try (with_reducible rfl)
          try simp only [Act.put, List.setIfInBounds_toArray, List.set_cons_zero, List.set_cons_succ]
          refine anyR_take (i := 23) (oi := { dst := some 131, op := Go.Op.binOp Go.BinOp.neq 4 (Go.Operand.tmp 129) (Go.Operand.tmp 130) 4, type := 4, pos := "law.go:178", after := #[{ on := 21, ground := Go.Ground.data }, { on := 22, ground := Go.Ground.data }, { on := 18, ground := Go.Ground.guard }], guard := some (18, false) }) (v := ?_) rfl (by kernel_rfl) (fun _ _ _ h => h) (Or.inl ⟨by rfl, ?_⟩) HS.out ?_
          rotate_left
          · intro w9 hSw; (try dsimp only at hSw); go_simp; try (with_reducible rfl)
          try simp only [Act.put, List.setIfInBounds_toArray, List.set_cons_zero, List.set_cons_succ]
          refine anyR_take (i := 24) (oi := { dst := some 132, op := Go.Op.pick (Go.Operand.tmp 126) (Go.Operand.const (Go.Value.bool true)) (Go.Operand.tmp 131), type := 4, pos := "law.go:178", after := #[{ on := 18, ground := Go.Ground.data }, { on := 23, ground := Go.Ground.data }], guard := none }) (v := ?_) rfl (by kernel_rfl) (fun _ _ _ h => h) (Or.inl ⟨by rfl, ?_⟩) HS.out ?_
          rotate_left
          · intro w9 hSw; (try dsimp only at hSw); go_simp; try (with_reducible rfl)
          try simp only [Act.put, List.setIfInBounds_toArray, List.set_cons_zero, List.set_cons_succ]
          refine anyR_take (i := 25) (oi := { dst := some 133, op := Go.Op.move (Go.Operand.tmp 132), type := 4, pos := "law.go:178", after := #[{ on := 24, ground := Go.Ground.data }, { on := 18, ground := Go.Ground.chain }], guard := none }) (v := ?_) rfl (by kernel_rfl) (fun _ _ _ h => h) (Or.inl ⟨by rfl, ?_⟩) HS.out ?_
          rotate_left
          · intro w9 hSw; (try dsimp only at hSw); go_simp; try (with_reducible rfl)
          try simp only [Act.put, List.setIfInBounds_toArray, List.set_cons_zero, List.set_cons_succ]
          refine anyR_take (i := 26) (oi := { dst := some 134, op := Go.Op.move (Go.Operand.tmp 7), type := 42, pos := "law.go:178", after := #[{ on := 25, ground := Go.Ground.guard }], guard := some (25, false) }) (v := ?_) rfl (by kernel_rfl) (fun _ _ _ h => h) (Or.inl ⟨by rfl, ?_⟩) HS.out ?_
          rotate_left
          · intro w9 hSw; (try dsimp only at hSw); go_simp; try (with_reducible rfl)
          try simp only [Act.put, List.setIfInBounds_toArray, List.set_cons_zero, List.set_cons_succ]
          refine anyR_take (i := 27) (oi := { dst := some 135, op := Go.Op.call { callee := Go.Callee.builtin Go.Builtin.len, args := #[Go.Operand.tmp 134], argTypes := #[42] }, type := 3, pos := "law.go:178", after := #[{ on := 26, ground := Go.Ground.data }, { on := 25, ground := Go.Ground.guard }], guard := some (25, false) }) (v := ?_) rfl (by kernel_rfl) (fun _ _ _ h => h) (Or.inl ⟨by rfl, ?_⟩) HS.out ?_
          rotate_left
          · intro w9 hSw; (try dsimp only at hSw); go_simp; try (with_reducible rfl)
          try simp only [Act.put, List.setIfInBounds_toArray, List.set_cons_zero, List.set_cons_succ]
          refine anyR_take (i := 28) (oi := { dst := some 136, op := Go.Op.binOp Go.BinOp.eql 3 (Go.Operand.tmp 135) (Go.Operand.const (Go.Value.int Go.IntKind.i64 0)) 3, type := 4, pos := "law.go:178", after := #[{ on := 27, ground := Go.Ground.data }, { on := 25, ground := Go.Ground.guard }], guard := some (25, false) }) (v := ?_) rfl (by kernel_rfl) (fun _ _ _ h => h) (Or.inl ⟨by rfl, ?_⟩) HS.out ?_
          rotate_left
          · intro w9 hSw; (try dsimp only at hSw); go_simp; try (with_reducible rfl)
          try simp only [Act.put, List.setIfInBounds_toArray, List.set_cons_zero, List.set_cons_succ]
          refine anyR_take (i := 29) (oi := { dst := some 137, op := Go.Op.pick (Go.Operand.tmp 133) (Go.Operand.const (Go.Value.bool true)) (Go.Operand.tmp 136), type := 4, pos := "law.go:178", after := #[{ on := 25, ground := Go.Ground.data }, { on := 28, ground := Go.Ground.data }], guard := none }) (v := ?_) rfl (by kernel_rfl) (fun _ _ _ h => h) (Or.inl ⟨by rfl, ?_⟩) HS.out ?_
          rotate_left
          · intro w9 hSw; (try dsimp only at hSw); go_simp; try (with_reducible rfl)
          try simp only [Act.put, List.setIfInBounds_toArray, List.set_cons_zero, List.set_cons_succ]
          refine anyR_done (by kernel_rfl) ?_ _
          have HN3 : Hid (NestI W1 l E (cst op', l.drop n) (i + 1) Vd o (k + 1) (.slice Ao o.length co)) := Lib.hid ⟨by rw [HDR.out]; simpa using HR.out, HH.out.below.trans (HBD.out.mono HH.out.below.size), own_move HH.out.open_ (fun q hq => HBD.out.block q (own_lt HH.out.open_ q hq)), HH.out.most, HKL.out⟩
          clear x0 x1 x2 x3 x4 x5 x6 x7 l0 l1 l2 l3 l4 l5
          go_wp2
          go_roundw
          case rel => exact ⟨i + 1, by omega, by go_num, k + 1, by first | rfl | go_num, Lib.hid ⟨_, HN3.out⟩⟩
          case measure => simp [intOf] <;> omega
        · cases k7 with
          | true =>
            clear hnt
            go_upto_region 24 with (first
              | ((with_reducible refine gate_ (.store 46 (.tmp 10) (.tmp 36)) rfl ?_); refine wl_cells rfl rfl _ _ _ rfl (g := wr.heap.size) (off := 0) (.agg (evCells (⟨4, 0, t⟩ : Ev)).toArray) (evCells (⟨4, 0, t⟩ : Ev)) rfl rfl rfl (by kernel_rfl) (evCells_one _) HBX.out.1.choose_spec.1 HBX.out.1.choose_spec.2 ?_; intro V hV; obtain ⟨hbv, hbx⟩ := HBX.out.2 V hV; have HBV := Lib.hid hbv; have hbv0 := hbv; have HX := Lib.hid hbx; clear hV hbv hbx c0 c1 c2 c3 c4 c5 c6 c7; obtain ⟨x0, x1, x2, x3, x4, x5, x6, x7⟩ := box_cells HX.out; (try dsimp only [noTk] at x0 x1 x2 x3 x4 x5 x6 x7); have HBW := Lib.hid (HH.out.below.trans (hbv0.mono HH.out.below.size)); obtain ⟨l0, l1, l2, l3, l4, l5⟩ := HTC.out V HBW.out; clear hbv0))
            obtain ⟨Vd, hVd⟩ : ∃ W, V.drew = W := ⟨_, rfl⟩
            have hbd : Below V.heap.size V Vd := by rw [← hVd]; exact (Below.refl _ V).drew
            have HS := Lib.hid (show Vd.cell? ⟨wr.heap.size, 0, none⟩ = some (.int .u8 4) ∧ Vd.cell? ⟨wr.heap.size, 1, none⟩ = some (.int .u8 0) ∧ Vd.cell? ⟨wr.heap.size, 2, none⟩ = some (.int .u8 t.f0) ∧ Vd.cell? ⟨wr.heap.size, 3, none⟩ = some (.string t.f1) ∧ Vd.cell? ⟨wr.heap.size, 4, none⟩ = some (.int .i64 t.f2.f0) ∧ Vd.cell? ⟨wr.heap.size, 5, none⟩ = some (.int .i64 t.f2.f1) ∧ Vd.cell? ⟨wr.heap.size, 6, none⟩ = some (.int .i64 t.f2.f2) ∧ Vd.cell? ⟨wr.heap.size, 7, none⟩ = some (.int .i64 t.f3) ∧ Vd.cell? ⟨(ad.add (k * 6)).block, (ad.add (k * 6)).off + 1, none⟩ = some (.string t.f1) ∧ Vd.cell? ⟨(ad.add (k * 6)).block, (ad.add (k * 6)).off + 2, none⟩ = some (.int .i64 t.f2.f0) ∧ Vd.cell? ⟨(ad.add (k * 6)).block, (ad.add (k * 6)).off + 3, none⟩ = some (.int .i64 t.f2.f1) ∧ Vd.cell? ⟨(ad.add (k * 6)).block, (ad.add (k * 6)).off + 4, none⟩ = some (.int .i64 t.f2.f2) ∧ Vd.cell? ⟨(ad.add (k * 6)).block, (ad.add (k * 6)).off + 5, none⟩ = some (.int .i64 t.f3) ∧ Vd.cell? (ad.add (k * 6)) = some (.int .u8 t.f0) from ⟨pw_cell_below hbd x0, pw_cell_below hbd x1, pw_cell_below hbd x2, pw_cell_below hbd x3, pw_cell_below hbd x4, pw_cell_below hbd x5, pw_cell_below hbd x6, pw_cell_below hbd x7, pw_cell_below hbd l1, pw_cell_below hbd l2, pw_cell_below hbd l3, pw_cell_below hbd l4, pw_cell_below hbd l5, pw_cell_below hbd l0⟩)
            have HBD := Lib.hid (HBV.out.trans (hbd.mono HBV.out.size))
            have HVd := Lib.hid hVd
            clear hbd hVd
            refine wp_region_R (fun w' => w'.cell? ⟨wr.heap.size, 0, none⟩ = some (.int .u8 4) ∧ w'.cell? ⟨wr.heap.size, 1, none⟩ = some (.int .u8 0) ∧ w'.cell? ⟨wr.heap.size, 2, none⟩ = some (.int .u8 t.f0) ∧ w'.cell? ⟨wr.heap.size, 3, none⟩ = some (.string t.f1) ∧ w'.cell? ⟨wr.heap.size, 4, none⟩ = some (.int .i64 t.f2.f0) ∧ w'.cell? ⟨wr.heap.size, 5, none⟩ = some (.int .i64 t.f2.f1) ∧ w'.cell? ⟨wr.heap.size, 6, none⟩ = some (.int .i64 t.f2.f2) ∧ w'.cell? ⟨wr.heap.size, 7, none⟩ = some (.int .i64 t.f3) ∧ w'.cell? ⟨(ad.add (k * 6)).block, (ad.add (k * 6)).off + 1, none⟩ = some (.string t.f1) ∧ w'.cell? ⟨(ad.add (k * 6)).block, (ad.add (k * 6)).off + 2, none⟩ = some (.int .i64 t.f2.f0) ∧ w'.cell? ⟨(ad.add (k * 6)).block, (ad.add (k * 6)).off + 3, none⟩ = some (.int .i64 t.f2.f1) ∧ w'.cell? ⟨(ad.add (k * 6)).block, (ad.add (k * 6)).off + 4, none⟩ = some (.int .i64 t.f2.f2) ∧ w'.cell? ⟨(ad.add (k * 6)).block, (ad.add (k * 6)).off + 5, none⟩ = some (.int .i64 t.f3) ∧ w'.cell? (ad.add (k * 6)) = some (.int .u8 t.f0)) (fun _ => true) (by kernel_rfl) ?_
            rw [HVd.out]
            refine anyR_take (i := 0) (oi := { dst := some 108, op := Go.Op.move (Go.Operand.tmp 8), type := 3, pos := "law.go:178", after := #[], guard := none }) (v := ?_) rfl (by kernel_rfl) (fun _ _ _ h => h) (Or.inl ⟨by rfl, ?_⟩) HS.out ?_
            rotate_left
            · intro w9 hSw; (try dsimp only at hSw); go_simp; try (with_reducible rfl)
            try simp only [Act.put, List.setIfInBounds_toArray, List.set_cons_zero, List.set_cons_succ]
            refine anyR_take (i := 1) (oi := { dst := some 109, op := Go.Op.move (Go.Operand.tmp 0), type := 22, pos := "law.go:178", after := #[], guard := none }) (v := ?_) rfl (by kernel_rfl) (fun _ _ _ h => h) (Or.inl ⟨by rfl, ?_⟩) HS.out ?_
            rotate_left
            · intro w9 hSw; (try dsimp only at hSw); go_simp; try (with_reducible rfl)
            try simp only [Act.put, List.setIfInBounds_toArray, List.set_cons_zero, List.set_cons_succ]
            refine anyR_take (i := 2) (oi := { dst := some 110, op := Go.Op.call { callee := Go.Callee.builtin Go.Builtin.len, args := #[Go.Operand.tmp 109], argTypes := #[22] }, type := 3, pos := "law.go:178", after := #[{ on := 1, ground := Go.Ground.data }], guard := none }) (v := ?_) rfl (by kernel_rfl) (fun _ _ _ h => h) (Or.inl ⟨by rfl, ?_⟩) HS.out ?_
            rotate_left
            · intro w9 hSw; (try dsimp only at hSw); go_simp; try (with_reducible rfl)
            try simp only [Act.put, List.setIfInBounds_toArray, List.set_cons_zero, List.set_cons_succ]
            refine anyR_take (i := 3) (oi := { dst := some 111, op := Go.Op.binOp Go.BinOp.geq 3 (Go.Operand.tmp 108) (Go.Operand.tmp 110) 3, type := 4, pos := "law.go:178", after := #[{ on := 0, ground := Go.Ground.data }, { on := 2, ground := Go.Ground.data }], guard := none }) (v := ?_) rfl (by kernel_rfl) (fun _ _ _ h => h) (Or.inl ⟨by rfl, ?_⟩) HS.out ?_
            rotate_left
            · intro w9 hSw; (try dsimp only at hSw); go_simp; try (with_reducible rfl)
            try simp only [Act.put, List.setIfInBounds_toArray, List.set_cons_zero, List.set_cons_succ]
            refine anyR_take (i := 4) (oi := { dst := some 112, op := Go.Op.move (Go.Operand.tmp 111), type := 4, pos := "law.go:178", after := #[{ on := 3, ground := Go.Ground.data }], guard := none }) (v := ?_) rfl (by kernel_rfl) (fun _ _ _ h => h) (Or.inl ⟨by rfl, ?_⟩) HS.out ?_
            rotate_left
            · intro w9 hSw; (try dsimp only at hSw); go_simp; try (with_reducible rfl)
            try simp only [Act.put, List.setIfInBounds_toArray, List.set_cons_zero, List.set_cons_succ]
            refine anyR_take (i := 5) (oi := { dst := some 113, op := Go.Op.fieldAddr 46 (Go.Operand.tmp 10) 2, type := 0, pos := "law.go:178", after := #[{ on := 4, ground := Go.Ground.guard }], guard := some (4, false) }) (v := ?_) rfl (by kernel_rfl) (fun _ _ _ h => h) (Or.inl ⟨by rfl, ?_⟩) HS.out ?_
            rotate_left
            · intro w9 hSw; (try dsimp only at hSw); go_simp; try (with_reducible rfl)
            try simp only [Act.put, List.setIfInBounds_toArray, List.set_cons_zero, List.set_cons_succ]
            refine anyR_take (i := 6) (oi := { dst := some 114, op := Go.Op.load 35 (Go.Operand.tmp 113), type := 35, pos := "law.go:178", after := #[{ on := 5, ground := Go.Ground.data }, { on := 4, ground := Go.Ground.guard }], guard := some (4, false) }) (v := ?_) rfl (by kernel_rfl) (fun _ _ _ h => h) (Or.inl ⟨by rfl, ?_⟩) HS.out ?_
            rotate_left
            · intro w9 hSw; (try dsimp only at hSw); go_simp; try (with_reducible rfl)
            try simp only [Act.put, List.setIfInBounds_toArray, List.set_cons_zero, List.set_cons_succ]
            refine anyR_take (i := 7) (oi := { dst := some 115, op := Go.Op.move (Go.Operand.tmp 0), type := 22, pos := "law.go:178", after := #[{ on := 4, ground := Go.Ground.guard }], guard := some (4, false) }) (v := ?_) rfl (by kernel_rfl) (fun _ _ _ h => h) (Or.inl ⟨by rfl, ?_⟩) HS.out ?_
            rotate_left
            · intro w9 hSw; (try dsimp only at hSw); go_simp; try (with_reducible rfl)
            try simp only [Act.put, List.setIfInBounds_toArray, List.set_cons_zero, List.set_cons_succ]
            refine anyR_take (i := 8) (oi := { dst := some 116, op := Go.Op.move (Go.Operand.tmp 8), type := 3, pos := "law.go:178", after := #[{ on := 4, ground := Go.Ground.guard }], guard := some (4, false) }) (v := ?_) rfl (by kernel_rfl) (fun _ _ _ h => h) (Or.inl ⟨by rfl, ?_⟩) HS.out ?_
            rotate_left
            · intro w9 hSw; (try dsimp only at hSw); go_simp; try (with_reducible rfl)
            try simp only [Act.put, List.setIfInBounds_toArray, List.set_cons_zero, List.set_cons_succ]
            refine anyR_take (i := 9) (oi := { dst := some 117, op := Go.Op.indexAddr 22 (Go.Operand.tmp 115) (Go.Operand.tmp 116), type := 0, pos := "law.go:178", after := #[{ on := 7, ground := Go.Ground.data }, { on := 8, ground := Go.Ground.data }, { on := 4, ground := Go.Ground.guard }], guard := some (4, false) }) (v := ?_) rfl (by kernel_rfl) (fun _ _ _ h => h) (Or.inl ⟨by rfl, ?_⟩) HS.out ?_
            rotate_left
            · intro w9 hSw; (try dsimp only at hSw); go_simp; try (with_reducible rfl)
            try simp only [Act.put, List.setIfInBounds_toArray, List.set_cons_zero, List.set_cons_succ]
            refine anyR_take (i := 10) (oi := { dst := some 118, op := Go.Op.load 35 (Go.Operand.tmp 117), type := 35, pos := "law.go:178", after := #[{ on := 9, ground := Go.Ground.data }, { on := 4, ground := Go.Ground.guard }], guard := some (4, false) }) (v := ?_) rfl (by kernel_rfl) (fun _ _ _ h => h) (Or.inl ⟨by rfl, ?_⟩) HS.out ?_
            rotate_left
            · intro w9 hSw; (try dsimp only at hSw); go_simp; try (with_reducible rfl)
            try simp only [Act.put, List.setIfInBounds_toArray, List.set_cons_zero, List.set_cons_succ]
            refine anyR_take (i := 11) (oi := { dst := some 119, op := Go.Op.binOp Go.BinOp.neq 35 (Go.Operand.tmp 114) (Go.Operand.tmp 118) 35, type := 4, pos := "law.go:178", after := #[{ on := 6, ground := Go.Ground.data }, { on := 10, ground := Go.Ground.data }, { on := 4, ground := Go.Ground.guard }], guard := some (4, false) }) (v := ?_) rfl (by kernel_rfl) (fun _ _ _ h => h) (Or.inl ⟨by rfl, ?_⟩) HS.out ?_
            rotate_left
            · intro w9 hSw; (try dsimp only at hSw); go_simp; try (with_reducible rfl)
            try simp only [Act.put, List.setIfInBounds_toArray, List.set_cons_zero, List.set_cons_succ]
            refine anyR_take (i := 12) (oi := { dst := some 120, op := Go.Op.pick (Go.Operand.tmp 112) (Go.Operand.const (Go.Value.bool true)) (Go.Operand.tmp 119), type := 4, pos := "law.go:178", after := #[{ on := 4, ground := Go.Ground.data }, { on := 11, ground := Go.Ground.data }], guard := none }) (v := ?_) rfl (by kernel_rfl) (fun _ _ _ h => h) (Or.inl ⟨by rfl, ?_⟩) HS.out ?_
            rotate_left
            · intro w9 hSw; (try dsimp only at hSw); go_simp; try (with_reducible rfl)
            try simp only [Act.put, List.setIfInBounds_toArray, List.set_cons_zero, List.set_cons_succ]
            refine anyR_take (i := 13) (oi := { dst := some 121, op := Go.Op.move (Go.Operand.tmp 120), type := 4, pos := "law.go:178", after := #[{ on := 12, ground := Go.Ground.data }, { on := 4, ground := Go.Ground.chain }], guard := none }) (v := ?_) rfl (by kernel_rfl) (fun _ _ _ h => h) (Or.inl ⟨by rfl, ?_⟩) HS.out ?_
            rotate_left
            · intro w9 hSw; (try dsimp only at hSw); go_simp; try (with_reducible rfl)
            try simp only [Act.put, List.setIfInBounds_toArray, List.set_cons_zero, List.set_cons_succ]
            refine anyR_take (i := 14) (oi := { dst := some 122, op := Go.Op.fieldAddr 46 (Go.Operand.tmp 10) 1, type := 0, pos := "law.go:178", after := #[{ on := 13, ground := Go.Ground.guard }], guard := some (13, false) }) (v := ?_) rfl (by kernel_rfl) (fun _ _ _ h => h) (Or.inl ⟨by rfl, ?_⟩) HS.out ?_
            rotate_left
            · intro w9 hSw; (try dsimp only at hSw); go_simp; try (with_reducible rfl)
            try simp only [Act.put, List.setIfInBounds_toArray, List.set_cons_zero, List.set_cons_succ]
            refine anyR_take (i := 15) (oi := { dst := some 123, op := Go.Op.load 44 (Go.Operand.tmp 122), type := 44, pos := "law.go:178", after := #[{ on := 14, ground := Go.Ground.data }, { on := 13, ground := Go.Ground.guard }], guard := some (13, false) }) (v := ?_) rfl (by kernel_rfl) (fun _ _ _ h => h) (Or.inl ⟨by rfl, ?_⟩) HS.out ?_
            rotate_left
            · intro w9 hSw; (try dsimp only at hSw); go_simp; try (with_reducible rfl)
            try simp only [Act.put, List.setIfInBounds_toArray, List.set_cons_zero, List.set_cons_succ]
            refine anyR_take (i := 16) (oi := { dst := some 124, op := Go.Op.binOp Go.BinOp.neq 44 (Go.Operand.tmp 123) (Go.Operand.const (Go.Value.int Go.IntKind.u8 0)) 44, type := 4, pos := "law.go:178", after := #[{ on := 15, ground := Go.Ground.data }, { on := 13, ground := Go.Ground.guard }], guard := some (13, false) }) (v := ?_) rfl (by kernel_rfl) (fun _ _ _ h => h) (Or.inl ⟨by rfl, ?_⟩) HS.out ?_
            rotate_left
            · intro w9 hSw; (try dsimp only at hSw); go_simp; try (with_reducible rfl)
            try simp only [Act.put, List.setIfInBounds_toArray, List.set_cons_zero, List.set_cons_succ]
            refine anyR_take (i := 17) (oi := { dst := some 125, op := Go.Op.pick (Go.Operand.tmp 121) (Go.Operand.const (Go.Value.bool true)) (Go.Operand.tmp 124), type := 4, pos := "law.go:178", after := #[{ on := 13, ground := Go.Ground.data }, { on := 16, ground := Go.Ground.data }], guard := none }) (v := ?_) rfl (by kernel_rfl) (fun _ _ _ h => h) (Or.inl ⟨by rfl, ?_⟩) HS.out ?_
            rotate_left
            · intro w9 hSw; (try dsimp only at hSw); go_simp; try (with_reducible rfl)
            try simp only [Act.put, List.setIfInBounds_toArray, List.set_cons_zero, List.set_cons_succ]
            refine anyR_take (i := 18) (oi := { dst := some 126, op := Go.Op.move (Go.Operand.tmp 125), type := 4, pos := "law.go:178", after := #[{ on := 17, ground := Go.Ground.data }, { on := 13, ground := Go.Ground.chain }], guard := none }) (v := ?_) rfl (by kernel_rfl) (fun _ _ _ h => h) (Or.inl ⟨by rfl, ?_⟩) HS.out ?_
            rotate_left
            · intro w9 hSw; (try dsimp only at hSw); go_simp; try (with_reducible rfl)
            try simp only [Act.put, List.setIfInBounds_toArray, List.set_cons_zero, List.set_cons_succ]
            refine anyR_take (i := 19) (oi := { dst := some 127, op := Go.Op.fieldAddr 46 (Go.Operand.tmp 10) 0, type := 0, pos := "law.go:178", after := #[{ on := 18, ground := Go.Ground.guard }], guard := some (18, false) }) (v := ?_) rfl (by kernel_rfl) (fun _ _ _ h => h) (Or.inl ⟨by rfl, ?_⟩) HS.out ?_
            rotate_left
            · intro w9 hSw; (try dsimp only at hSw); go_simp; try (with_reducible rfl)
            try simp only [Act.put, List.setIfInBounds_toArray, List.set_cons_zero, List.set_cons_succ]
            refine anyR_take (i := 20) (oi := { dst := some 128, op := Go.Op.load 43 (Go.Operand.tmp 127), type := 43, pos := "law.go:178", after := #[{ on := 19, ground := Go.Ground.data }, { on := 18, ground := Go.Ground.guard }], guard := some (18, false) }) (v := ?_) rfl (by kernel_rfl) (fun _ _ _ h => h) (Or.inl ⟨by rfl, ?_⟩) HS.out ?_
            rotate_left
            · intro w9 hSw; (try dsimp only at hSw); go_simp; try (with_reducible rfl)
            try simp only [Act.put, List.setIfInBounds_toArray, List.set_cons_zero, List.set_cons_succ]
            refine anyR_take (i := 21) (oi := { dst := some 129, op := Go.Op.binOp Go.BinOp.eql 43 (Go.Operand.tmp 128) (Go.Operand.const (Go.Value.int Go.IntKind.u8 4)) 43, type := 4, pos := "law.go:178", after := #[{ on := 20, ground := Go.Ground.data }, { on := 18, ground := Go.Ground.guard }], guard := some (18, false) }) (v := ?_) rfl (by kernel_rfl) (fun _ _ _ h => h) (Or.inl ⟨by rfl, ?_⟩) HS.out ?_
            rotate_left
            · intro w9 hSw; (try dsimp only at hSw); go_simp; try (with_reducible rfl)
            try simp only [Act.put, List.setIfInBounds_toArray, List.set_cons_zero, List.set_cons_succ]
            refine anyR_take (i := 22) (oi := { dst := some 130, op := Go.Op.move (Go.Operand.tmp 11), type := 4, pos := "law.go:178", after := #[{ on := 18, ground := Go.Ground.guard }], guard := some (18, false) }) (v := ?_) rfl (by kernel_rfl) (fun _ _ _ h => h) (Or.inl ⟨by rfl, ?_⟩) HS.out ?_
            rotate_left
            · intro w9 hSw; (try dsimp only at hSw); go_simp; try (with_reducible rfl)
            try simp only [Act.put, List.setIfInBounds_toArray, List.set_cons_zero, List.set_cons_succ]
            refine anyR_take (i := 23) (oi := { dst := some 131, op := Go.Op.binOp Go.BinOp.neq 4 (Go.Operand.tmp 129) (Go.Operand.tmp 130) 4, type := 4, pos := "law.go:178", after := #[{ on := 21, ground := Go.Ground.data }, { on := 22, ground := Go.Ground.data }, { on := 18, ground := Go.Ground.guard }], guard := some (18, false) }) (v := ?_) rfl (by kernel_rfl) (fun _ _ _ h => h) (Or.inl ⟨by rfl, ?_⟩) HS.out ?_
            rotate_left
            · intro w9 hSw; (try dsimp only at hSw); go_simp; try (with_reducible rfl)
            try simp only [Act.put, List.setIfInBounds_toArray, List.set_cons_zero, List.set_cons_succ]
            refine anyR_take (i := 24) (oi := { dst := some 132, op := Go.Op.pick (Go.Operand.tmp 126) (Go.Operand.const (Go.Value.bool true)) (Go.Operand.tmp 131), type := 4, pos := "law.go:178", after := #[{ on := 18, ground := Go.Ground.data }, { on := 23, ground := Go.Ground.data }], guard := none }) (v := ?_) rfl (by kernel_rfl) (fun _ _ _ h => h) (Or.inl ⟨by rfl, ?_⟩) HS.out ?_
            rotate_left
            · intro w9 hSw; (try dsimp only at hSw); go_simp; try (with_reducible rfl)
            try simp only [Act.put, List.setIfInBounds_toArray, List.set_cons_zero, List.set_cons_succ]
            refine anyR_take (i := 25) (oi := { dst := some 133, op := Go.Op.move (Go.Operand.tmp 132), type := 4, pos := "law.go:178", after := #[{ on := 24, ground := Go.Ground.data }, { on := 18, ground := Go.Ground.chain }], guard := none }) (v := ?_) rfl (by kernel_rfl) (fun _ _ _ h => h) (Or.inl ⟨by rfl, ?_⟩) HS.out ?_
            rotate_left
            · intro w9 hSw; (try dsimp only at hSw); go_simp; try (with_reducible rfl)
            try simp only [Act.put, List.setIfInBounds_toArray, List.set_cons_zero, List.set_cons_succ]
            refine anyR_take (i := 26) (oi := { dst := some 134, op := Go.Op.move (Go.Operand.tmp 7), type := 42, pos := "law.go:178", after := #[{ on := 25, ground := Go.Ground.guard }], guard := some (25, false) }) (v := ?_) rfl (by kernel_rfl) (fun _ _ _ h => h) (Or.inl ⟨by rfl, ?_⟩) HS.out ?_
            rotate_left
            · intro w9 hSw; (try dsimp only at hSw); go_simp; try (with_reducible rfl)
            try simp only [Act.put, List.setIfInBounds_toArray, List.set_cons_zero, List.set_cons_succ]
            refine anyR_take (i := 27) (oi := { dst := some 135, op := Go.Op.call { callee := Go.Callee.builtin Go.Builtin.len, args := #[Go.Operand.tmp 134], argTypes := #[42] }, type := 3, pos := "law.go:178", after := #[{ on := 26, ground := Go.Ground.data }, { on := 25, ground := Go.Ground.guard }], guard := some (25, false) }) (v := ?_) rfl (by kernel_rfl) (fun _ _ _ h => h) (Or.inl ⟨by rfl, ?_⟩) HS.out ?_
            rotate_left
            · intro w9 hSw; (try dsimp only at hSw); go_simp; try (with_reducible rfl)
            try simp only [Act.put, List.setIfInBounds_toArray, List.set_cons_zero, List.set_cons_succ]
            refine anyR_take (i := 28) (oi := { dst := some 136, op := Go.Op.binOp Go.BinOp.eql 3 (Go.Operand.tmp 135) (Go.Operand.const (Go.Value.int Go.IntKind.i64 0)) 3, type := 4, pos := "law.go:178", after := #[{ on := 27, ground := Go.Ground.data }, { on := 25, ground := Go.Ground.guard }], guard := some (25, false) }) (v := ?_) rfl (by kernel_rfl) (fun _ _ _ h => h) (Or.inl ⟨by rfl, ?_⟩) HS.out ?_
            rotate_left
            · intro w9 hSw; (try dsimp only at hSw); go_simp; try (with_reducible rfl)
            try simp only [Act.put, List.setIfInBounds_toArray, List.set_cons_zero, List.set_cons_succ]
            refine anyR_take (i := 29) (oi := { dst := some 137, op := Go.Op.pick (Go.Operand.tmp 133) (Go.Operand.const (Go.Value.bool true)) (Go.Operand.tmp 136), type := 4, pos := "law.go:178", after := #[{ on := 25, ground := Go.Ground.data }, { on := 28, ground := Go.Ground.data }], guard := none }) (v := ?_) rfl (by kernel_rfl) (fun _ _ _ h => h) (Or.inl ⟨by rfl, ?_⟩) HS.out ?_
            rotate_left
            · intro w9 hSw; (try dsimp only at hSw); go_simp; try (with_reducible rfl)
            try simp only [Act.put, List.setIfInBounds_toArray, List.set_cons_zero, List.set_cons_succ]
            refine anyR_done (by kernel_rfl) ?_ _
            have HN3 : Hid (NestI W1 l E (cst op', l.drop n) (i + 1) Vd o (k + 1) (.slice Ao o.length co)) := Lib.hid ⟨by rw [HDR.out]; simpa using HR.out, HH.out.below.trans (HBD.out.mono HH.out.below.size), own_move HH.out.open_ (fun q hq => HBD.out.block q (own_lt HH.out.open_ q hq)), HH.out.most, HKL.out⟩
            clear x0 x1 x2 x3 x4 x5 x6 x7 l0 l1 l2 l3 l4 l5
            go_wp2
            go_roundw
            case rel => exact ⟨i + 1, by omega, by go_num, k + 1, by first | rfl | go_num, Lib.hid ⟨_, HN3.out⟩⟩
            case measure => simp [intOf] <;> omega
          | false =>
            obtain rfl : k8 = true := by simpa using hnt
            clear hnt
            go_upto_region 24 with (first
              | ((with_reducible refine gate_ (.store 46 (.tmp 10) (.tmp 36)) rfl ?_); refine wl_cells rfl rfl _ _ _ rfl (g := wr.heap.size) (off := 0) (.agg (evCells (⟨4, 0, t⟩ : Ev)).toArray) (evCells (⟨4, 0, t⟩ : Ev)) rfl rfl rfl (by kernel_rfl) (evCells_one _) HBX.out.1.choose_spec.1 HBX.out.1.choose_spec.2 ?_; intro V hV; obtain ⟨hbv, hbx⟩ := HBX.out.2 V hV; have HBV := Lib.hid hbv; have hbv0 := hbv; have HX := Lib.hid hbx; clear hV hbv hbx c0 c1 c2 c3 c4 c5 c6 c7; obtain ⟨x0, x1, x2, x3, x4, x5, x6, x7⟩ := box_cells HX.out; (try dsimp only [noTk] at x0 x1 x2 x3 x4 x5 x6 x7); have HBW := Lib.hid (HH.out.below.trans (hbv0.mono HH.out.below.size)); obtain ⟨l0, l1, l2, l3, l4, l5⟩ := HTC.out V HBW.out; clear hbv0))
            obtain ⟨Vd, hVd⟩ : ∃ W, V.drew = W := ⟨_, rfl⟩
            have hbd : Below V.heap.size V Vd := by rw [← hVd]; exact (Below.refl _ V).drew
            have HS := Lib.hid (show Vd.cell? ⟨wr.heap.size, 0, none⟩ = some (.int .u8 4) ∧ Vd.cell? ⟨wr.heap.size, 1, none⟩ = some (.int .u8 0) ∧ Vd.cell? ⟨wr.heap.size, 2, none⟩ = some (.int .u8 t.f0) ∧ Vd.cell? ⟨wr.heap.size, 3, none⟩ = some (.string t.f1) ∧ Vd.cell? ⟨wr.heap.size, 4, none⟩ = some (.int .i64 t.f2.f0) ∧ Vd.cell? ⟨wr.heap.size, 5, none⟩ = some (.int .i64 t.f2.f1) ∧ Vd.cell? ⟨wr.heap.size, 6, none⟩ = some (.int .i64 t.f2.f2) ∧ Vd.cell? ⟨wr.heap.size, 7, none⟩ = some (.int .i64 t.f3) ∧ Vd.cell? ⟨(ad.add (k * 6)).block, (ad.add (k * 6)).off + 1, none⟩ = some (.string t.f1) ∧ Vd.cell? ⟨(ad.add (k * 6)).block, (ad.add (k * 6)).off + 2, none⟩ = some (.int .i64 t.f2.f0) ∧ Vd.cell? ⟨(ad.add (k * 6)).block, (ad.add (k * 6)).off + 3, none⟩ = some (.int .i64 t.f2.f1) ∧ Vd.cell? ⟨(ad.add (k * 6)).block, (ad.add (k * 6)).off + 4, none⟩ = some (.int .i64 t.f2.f2) ∧ Vd.cell? ⟨(ad.add (k * 6)).block, (ad.add (k * 6)).off + 5, none⟩ = some (.int .i64 t.f3) ∧ Vd.cell? (ad.add (k * 6)) = some (.int .u8 t.f0) from ⟨pw_cell_below hbd x0, pw_cell_below hbd x1, pw_cell_below hbd x2, pw_cell_below hbd x3, pw_cell_below hbd x4, pw_cell_below hbd x5, pw_cell_below hbd x6, pw_cell_below hbd x7, pw_cell_below hbd l1, pw_cell_below hbd l2, pw_cell_below hbd l3, pw_cell_below hbd l4, pw_cell_below hbd l5, pw_cell_below hbd l0⟩)
            have HBD := Lib.hid (HBV.out.trans (hbd.mono HBV.out.size))
            have HVd := Lib.hid hVd
            clear hbd hVd
            refine wp_region_R (fun w' => w'.cell? ⟨wr.heap.size, 0, none⟩ = some (.int .u8 4) ∧ w'.cell? ⟨wr.heap.size, 1, none⟩ = some (.int .u8 0) ∧ w'.cell? ⟨wr.heap.size, 2, none⟩ = some (.int .u8 t.f0) ∧ w'.cell? ⟨wr.heap.size, 3, none⟩ = some (.string t.f1) ∧ w'.cell? ⟨wr.heap.size, 4, none⟩ = some (.int .i64 t.f2.f0) ∧ w'.cell? ⟨wr.heap.size, 5, none⟩ = some (.int .i64 t.f2.f1) ∧ w'.cell? ⟨wr.heap.size, 6, none⟩ = some (.int .i64 t.f2.f2) ∧ w'.cell? ⟨wr.heap.size, 7, none⟩ = some (.int .i64 t.f3) ∧ w'.cell? ⟨(ad.add (k * 6)).block, (ad.add (k * 6)).off + 1, none⟩ = some (.string t.f1) ∧ w'.cell? ⟨(ad.add (k * 6)).block, (ad.add (k * 6)).off + 2, none⟩ = some (.int .i64 t.f2.f0) ∧ w'.cell? ⟨(ad.add (k * 6)).block, (ad.add (k * 6)).off + 3, none⟩ = some (.int .i64 t.f2.f1) ∧ w'.cell? ⟨(ad.add (k * 6)).block, (ad.add (k * 6)).off + 4, none⟩ = some (.int .i64 t.f2.f2) ∧ w'.cell? ⟨(ad.add (k * 6)).block, (ad.add (k * 6)).off + 5, none⟩ = some (.int .i64 t.f3) ∧ w'.cell? (ad.add (k * 6)) = some (.int .u8 t.f0)) (fun _ => true) (by kernel_rfl) ?_
            rw [HVd.out]
            refine anyR_take (i := 0) (oi := { dst := some 108, op := Go.Op.move (Go.Operand.tmp 8), type := 3, pos := "law.go:178", after := #[], guard := none }) (v := ?_) rfl (by kernel_rfl) (fun _ _ _ h => h) (Or.inl ⟨by rfl, ?_⟩) HS.out ?_
            rotate_left
            · intro w9 hSw; (try dsimp only at hSw); go_simp; try (with_reducible rfl)
            try simp only [Act.put, List.setIfInBounds_toArray, List.set_cons_zero, List.set_cons_succ]
            refine anyR_take (i := 1) (oi := { dst := some 109, op := Go.Op.move (Go.Operand.tmp 0), type := 22, pos := "law.go:178", after := #[], guard := none }) (v := ?_) rfl (by kernel_rfl) (fun _ _ _ h => h) (Or.inl ⟨by rfl, ?_⟩) HS.out ?_
            rotate_left
            · intro w9 hSw; (try dsimp only at hSw); go_simp; try (with_reducible rfl)
            try simp only [Act.put, List.setIfInBounds_toArray, List.set_cons_zero, List.set_cons_succ]
            refine anyR_take (i := 2) (oi := { dst := some 110, op := Go.Op.call { callee := Go.Callee.builtin Go.Builtin.len, args := #[Go.Operand.tmp 109], argTypes := #[22] }, type := 3, pos := "law.go:178", after := #[{ on := 1, ground := Go.Ground.data }], guard := none }) (v := ?_) rfl (by kernel_rfl) (fun _ _ _ h => h) (Or.inl ⟨by rfl, ?_⟩) HS.out ?_
            rotate_left
            · intro w9 hSw; (try dsimp only at hSw); go_simp; try (with_reducible rfl)
            try simp only [Act.put, List.setIfInBounds_toArray, List.set_cons_zero, List.set_cons_succ]
            refine anyR_take (i := 3) (oi := { dst := some 111, op := Go.Op.binOp Go.BinOp.geq 3 (Go.Operand.tmp 108) (Go.Operand.tmp 110) 3, type := 4, pos := "law.go:178", after := #[{ on := 0, ground := Go.Ground.data }, { on := 2, ground := Go.Ground.data }], guard := none }) (v := ?_) rfl (by kernel_rfl) (fun _ _ _ h => h) (Or.inl ⟨by rfl, ?_⟩) HS.out ?_
            rotate_left
            · intro w9 hSw; (try dsimp only at hSw); go_simp; try (with_reducible rfl)
            try simp only [Act.put, List.setIfInBounds_toArray, List.set_cons_zero, List.set_cons_succ]
            refine anyR_take (i := 4) (oi := { dst := some 112, op := Go.Op.move (Go.Operand.tmp 111), type := 4, pos := "law.go:178", after := #[{ on := 3, ground := Go.Ground.data }], guard := none }) (v := ?_) rfl (by kernel_rfl) (fun _ _ _ h => h) (Or.inl ⟨by rfl, ?_⟩) HS.out ?_
            rotate_left
            · intro w9 hSw; (try dsimp only at hSw); go_simp; try (with_reducible rfl)
            try simp only [Act.put, List.setIfInBounds_toArray, List.set_cons_zero, List.set_cons_succ]
            refine anyR_take (i := 5) (oi := { dst := some 113, op := Go.Op.fieldAddr 46 (Go.Operand.tmp 10) 2, type := 0, pos := "law.go:178", after := #[{ on := 4, ground := Go.Ground.guard }], guard := some (4, false) }) (v := ?_) rfl (by kernel_rfl) (fun _ _ _ h => h) (Or.inl ⟨by rfl, ?_⟩) HS.out ?_
            rotate_left
            · intro w9 hSw; (try dsimp only at hSw); go_simp; try (with_reducible rfl)
            try simp only [Act.put, List.setIfInBounds_toArray, List.set_cons_zero, List.set_cons_succ]
            refine anyR_take (i := 6) (oi := { dst := some 114, op := Go.Op.load 35 (Go.Operand.tmp 113), type := 35, pos := "law.go:178", after := #[{ on := 5, ground := Go.Ground.data }, { on := 4, ground := Go.Ground.guard }], guard := some (4, false) }) (v := ?_) rfl (by kernel_rfl) (fun _ _ _ h => h) (Or.inl ⟨by rfl, ?_⟩) HS.out ?_
            rotate_left
            · intro w9 hSw; (try dsimp only at hSw); go_simp; try (with_reducible rfl)
            try simp only [Act.put, List.setIfInBounds_toArray, List.set_cons_zero, List.set_cons_succ]
            refine anyR_take (i := 7) (oi := { dst := some 115, op := Go.Op.move (Go.Operand.tmp 0), type := 22, pos := "law.go:178", after := #[{ on := 4, ground := Go.Ground.guard }], guard := some (4, false) }) (v := ?_) rfl (by kernel_rfl) (fun _ _ _ h => h) (Or.inl ⟨by rfl, ?_⟩) HS.out ?_
            rotate_left
            · intro w9 hSw; (try dsimp only at hSw); go_simp; try (with_reducible rfl)
            try simp only [Act.put, List.setIfInBounds_toArray, List.set_cons_zero, List.set_cons_succ]
            refine anyR_take (i := 8) (oi := { dst := some 116, op := Go.Op.move (Go.Operand.tmp 8), type := 3, pos := "law.go:178", after := #[{ on := 4, ground := Go.Ground.guard }], guard := some (4, false) }) (v := ?_) rfl (by kernel_rfl) (fun _ _ _ h => h) (Or.inl ⟨by rfl, ?_⟩) HS.out ?_
            rotate_left
            · intro w9 hSw; (try dsimp only at hSw); go_simp; try (with_reducible rfl)
            try simp only [Act.put, List.setIfInBounds_toArray, List.set_cons_zero, List.set_cons_succ]
            refine anyR_take (i := 9) (oi := { dst := some 117, op := Go.Op.indexAddr 22 (Go.Operand.tmp 115) (Go.Operand.tmp 116), type := 0, pos := "law.go:178", after := #[{ on := 7, ground := Go.Ground.data }, { on := 8, ground := Go.Ground.data }, { on := 4, ground := Go.Ground.guard }], guard := some (4, false) }) (v := ?_) rfl (by kernel_rfl) (fun _ _ _ h => h) (Or.inl ⟨by rfl, ?_⟩) HS.out ?_
            rotate_left
            · intro w9 hSw; (try dsimp only at hSw); go_simp; try (with_reducible rfl)
            try simp only [Act.put, List.setIfInBounds_toArray, List.set_cons_zero, List.set_cons_succ]
            refine anyR_take (i := 10) (oi := { dst := some 118, op := Go.Op.load 35 (Go.Operand.tmp 117), type := 35, pos := "law.go:178", after := #[{ on := 9, ground := Go.Ground.data }, { on := 4, ground := Go.Ground.guard }], guard := some (4, false) }) (v := ?_) rfl (by kernel_rfl) (fun _ _ _ h => h) (Or.inl ⟨by rfl, ?_⟩) HS.out ?_
            rotate_left
            · intro w9 hSw; (try dsimp only at hSw); go_simp; try (with_reducible rfl)
            try simp only [Act.put, List.setIfInBounds_toArray, List.set_cons_zero, List.set_cons_succ]
            refine anyR_take (i := 11) (oi := { dst := some 119, op := Go.Op.binOp Go.BinOp.neq 35 (Go.Operand.tmp 114) (Go.Operand.tmp 118) 35, type := 4, pos := "law.go:178", after := #[{ on := 6, ground := Go.Ground.data }, { on := 10, ground := Go.Ground.data }, { on := 4, ground := Go.Ground.guard }], guard := some (4, false) }) (v := ?_) rfl (by kernel_rfl) (fun _ _ _ h => h) (Or.inl ⟨by rfl, ?_⟩) HS.out ?_
            rotate_left
            · intro w9 hSw; (try dsimp only at hSw); go_simp; try (with_reducible rfl)
            try simp only [Act.put, List.setIfInBounds_toArray, List.set_cons_zero, List.set_cons_succ]
            refine anyR_take (i := 12) (oi := { dst := some 120, op := Go.Op.pick (Go.Operand.tmp 112) (Go.Operand.const (Go.Value.bool true)) (Go.Operand.tmp 119), type := 4, pos := "law.go:178", after := #[{ on := 4, ground := Go.Ground.data }, { on := 11, ground := Go.Ground.data }], guard := none }) (v := ?_) rfl (by kernel_rfl) (fun _ _ _ h => h) (Or.inl ⟨by rfl, ?_⟩) HS.out ?_
            rotate_left
            · intro w9 hSw; (try dsimp only at hSw); go_simp; try (with_reducible rfl)
            try simp only [Act.put, List.setIfInBounds_toArray, List.set_cons_zero, List.set_cons_succ]
            refine anyR_take (i := 13) (oi := { dst := some 121, op := Go.Op.move (Go.Operand.tmp 120), type := 4, pos := "law.go:178", after := #[{ on := 12, ground := Go.Ground.data }, { on := 4, ground := Go.Ground.chain }], guard := none }) (v := ?_) rfl (by kernel_rfl) (fun _ _ _ h => h) (Or.inl ⟨by rfl, ?_⟩) HS.out ?_
            rotate_left
            · intro w9 hSw; (try dsimp only at hSw); go_simp; try (with_reducible rfl)
            try simp only [Act.put, List.setIfInBounds_toArray, List.set_cons_zero, List.set_cons_succ]
            refine anyR_take (i := 14) (oi := { dst := some 122, op := Go.Op.fieldAddr 46 (Go.Operand.tmp 10) 1, type := 0, pos := "law.go:178", after := #[{ on := 13, ground := Go.Ground.guard }], guard := some (13, false) }) (v := ?_) rfl (by kernel_rfl) (fun _ _ _ h => h) (Or.inl ⟨by rfl, ?_⟩) HS.out ?_
            rotate_left
            · intro w9 hSw; (try dsimp only at hSw); go_simp; try (with_reducible rfl)
            try simp only [Act.put, List.setIfInBounds_toArray, List.set_cons_zero, List.set_cons_succ]
            refine anyR_take (i := 15) (oi := { dst := some 123, op := Go.Op.load 44 (Go.Operand.tmp 122), type := 44, pos := "law.go:178", after := #[{ on := 14, ground := Go.Ground.data }, { on := 13, ground := Go.Ground.guard }], guard := some (13, false) }) (v := ?_) rfl (by kernel_rfl) (fun _ _ _ h => h) (Or.inl ⟨by rfl, ?_⟩) HS.out ?_
            rotate_left
            · intro w9 hSw; (try dsimp only at hSw); go_simp; try (with_reducible rfl)
            try simp only [Act.put, List.setIfInBounds_toArray, List.set_cons_zero, List.set_cons_succ]
            refine anyR_take (i := 16) (oi := { dst := some 124, op := Go.Op.binOp Go.BinOp.neq 44 (Go.Operand.tmp 123) (Go.Operand.const (Go.Value.int Go.IntKind.u8 0)) 44, type := 4, pos := "law.go:178", after := #[{ on := 15, ground := Go.Ground.data }, { on := 13, ground := Go.Ground.guard }], guard := some (13, false) }) (v := ?_) rfl (by kernel_rfl) (fun _ _ _ h => h) (Or.inl ⟨by rfl, ?_⟩) HS.out ?_
            rotate_left
            · intro w9 hSw; (try dsimp only at hSw); go_simp; try (with_reducible rfl)
            try simp only [Act.put, List.setIfInBounds_toArray, List.set_cons_zero, List.set_cons_succ]
            refine anyR_take (i := 17) (oi := { dst := some 125, op := Go.Op.pick (Go.Operand.tmp 121) (Go.Operand.const (Go.Value.bool true)) (Go.Operand.tmp 124), type := 4, pos := "law.go:178", after := #[{ on := 13, ground := Go.Ground.data }, { on := 16, ground := Go.Ground.data }], guard := none }) (v := ?_) rfl (by kernel_rfl) (fun _ _ _ h => h) (Or.inl ⟨by rfl, ?_⟩) HS.out ?_
            rotate_left
            · intro w9 hSw; (try dsimp only at hSw); go_simp; try (with_reducible rfl)
            try simp only [Act.put, List.setIfInBounds_toArray, List.set_cons_zero, List.set_cons_succ]
            refine anyR_take (i := 18) (oi := { dst := some 126, op := Go.Op.move (Go.Operand.tmp 125), type := 4, pos := "law.go:178", after := #[{ on := 17, ground := Go.Ground.data }, { on := 13, ground := Go.Ground.chain }], guard := none }) (v := ?_) rfl (by kernel_rfl) (fun _ _ _ h => h) (Or.inl ⟨by rfl, ?_⟩) HS.out ?_
            rotate_left
            · intro w9 hSw; (try dsimp only at hSw); go_simp; try (with_reducible rfl)
            try simp only [Act.put, List.setIfInBounds_toArray, List.set_cons_zero, List.set_cons_succ]
            refine anyR_take (i := 19) (oi := { dst := some 127, op := Go.Op.fieldAddr 46 (Go.Operand.tmp 10) 0, type := 0, pos := "law.go:178", after := #[{ on := 18, ground := Go.Ground.guard }], guard := some (18, false) }) (v := ?_) rfl (by kernel_rfl) (fun _ _ _ h => h) (Or.inl ⟨by rfl, ?_⟩) HS.out ?_
            rotate_left
            · intro w9 hSw; (try dsimp only at hSw); go_simp; try (with_reducible rfl)
            try simp only [Act.put, List.setIfInBounds_toArray, List.set_cons_zero, List.set_cons_succ]
            refine anyR_take (i := 20) (oi := { dst := some 128, op := Go.Op.load 43 (Go.Operand.tmp 127), type := 43, pos := "law.go:178", after := #[{ on := 19, ground := Go.Ground.data }, { on := 18, ground := Go.Ground.guard }], guard := some (18, false) }) (v := ?_) rfl (by kernel_rfl) (fun _ _ _ h => h) (Or.inl ⟨by rfl, ?_⟩) HS.out ?_
            rotate_left
            · intro w9 hSw; (try dsimp only at hSw); go_simp; try (with_reducible rfl)
            try simp only [Act.put, List.setIfInBounds_toArray, List.set_cons_zero, List.set_cons_succ]
            refine anyR_take (i := 21) (oi := { dst := some 129, op := Go.Op.binOp Go.BinOp.eql 43 (Go.Operand.tmp 128) (Go.Operand.const (Go.Value.int Go.IntKind.u8 4)) 43, type := 4, pos := "law.go:178", after := #[{ on := 20, ground := Go.Ground.data }, { on := 18, ground := Go.Ground.guard }], guard := some (18, false) }) (v := ?_) rfl (by kernel_rfl) (fun _ _ _ h => h) (Or.inl ⟨by rfl, ?_⟩) HS.out ?_
            rotate_left
            · intro w9 hSw; (try dsimp only at hSw); go_simp; try (with_reducible rfl)
            try simp only [Act.put, List.setIfInBounds_toArray, List.set_cons_zero, List.set_cons_succ]
            refine anyR_take (i := 22) (oi := { dst := some 130, op := Go.Op.move (Go.Operand.tmp 11), type := 4, pos := "law.go:178", after := #[{ on := 18, ground := Go.Ground.guard }], guard := some (18, false) }) (v := ?_) rfl (by kernel_rfl) (fun _ _ _ h => h) (Or.inl ⟨by rfl, ?_⟩) HS.out ?_
            rotate_left
            · intro w9 hSw; (try dsimp only at hSw); go_simp; try (with_reducible rfl)
            try simp only [Act.put, List.setIfInBounds_toArray, List.set_cons_zero, List.set_cons_succ]
            refine anyR_take (i := 23) (oi := { dst := some 131, op := Go.Op.binOp Go.BinOp.neq 4 (Go.Operand.tmp 129) (Go.Operand.tmp 130) 4, type := 4, pos := "law.go:178", after := #[{ on := 21, ground := Go.Ground.data }, { on := 22, ground := Go.Ground.data }, { on := 18, ground := Go.Ground.guard }], guard := some (18, false) }) (v := ?_) rfl (by kernel_rfl) (fun _ _ _ h => h) (Or.inl ⟨by rfl, ?_⟩) HS.out ?_
            rotate_left
            · intro w9 hSw; (try dsimp only at hSw); go_simp; try (with_reducible rfl)
            try simp only [Act.put, List.setIfInBounds_toArray, List.set_cons_zero, List.set_cons_succ]
            refine anyR_take (i := 24) (oi := { dst := some 132, op := Go.Op.pick (Go.Operand.tmp 126) (Go.Operand.const (Go.Value.bool true)) (Go.Operand.tmp 131), type := 4, pos := "law.go:178", after := #[{ on := 18, ground := Go.Ground.data }, { on := 23, ground := Go.Ground.data }], guard := none }) (v := ?_) rfl (by kernel_rfl) (fun _ _ _ h => h) (Or.inl ⟨by rfl, ?_⟩) HS.out ?_
            rotate_left
            · intro w9 hSw; (try dsimp only at hSw); go_simp; try (with_reducible rfl)
            try simp only [Act.put, List.setIfInBounds_toArray, List.set_cons_zero, List.set_cons_succ]
            refine anyR_take (i := 25) (oi := { dst := some 133, op := Go.Op.move (Go.Operand.tmp 132), type := 4, pos := "law.go:178", after := #[{ on := 24, ground := Go.Ground.data }, { on := 18, ground := Go.Ground.chain }], guard := none }) (v := ?_) rfl (by kernel_rfl) (fun _ _ _ h => h) (Or.inl ⟨by rfl, ?_⟩) HS.out ?_
            rotate_left
            · intro w9 hSw; (try dsimp only at hSw); go_simp; try (with_reducible rfl)
            try simp only [Act.put, List.setIfInBounds_toArray, List.set_cons_zero, List.set_cons_succ]
            refine anyR_take (i := 26) (oi := { dst := some 134, op := Go.Op.move (Go.Operand.tmp 7), type := 42, pos := "law.go:178", after := #[{ on := 25, ground := Go.Ground.guard }], guard := some (25, false) }) (v := ?_) rfl (by kernel_rfl) (fun _ _ _ h => h) (Or.inl ⟨by rfl, ?_⟩) HS.out ?_
            rotate_left
            · intro w9 hSw; (try dsimp only at hSw); go_simp; try (with_reducible rfl)
            try simp only [Act.put, List.setIfInBounds_toArray, List.set_cons_zero, List.set_cons_succ]
            refine anyR_take (i := 27) (oi := { dst := some 135, op := Go.Op.call { callee := Go.Callee.builtin Go.Builtin.len, args := #[Go.Operand.tmp 134], argTypes := #[42] }, type := 3, pos := "law.go:178", after := #[{ on := 26, ground := Go.Ground.data }, { on := 25, ground := Go.Ground.guard }], guard := some (25, false) }) (v := ?_) rfl (by kernel_rfl) (fun _ _ _ h => h) (Or.inl ⟨by rfl, ?_⟩) HS.out ?_
            rotate_left
            · intro w9 hSw; (try dsimp only at hSw); go_simp; try (with_reducible rfl)
            try simp only [Act.put, List.setIfInBounds_toArray, List.set_cons_zero, List.set_cons_succ]
            refine anyR_take (i := 28) (oi := { dst := some 136, op := Go.Op.binOp Go.BinOp.eql 3 (Go.Operand.tmp 135) (Go.Operand.const (Go.Value.int Go.IntKind.i64 0)) 3, type := 4, pos := "law.go:178", after := #[{ on := 27, ground := Go.Ground.data }, { on := 25, ground := Go.Ground.guard }], guard := some (25, false) }) (v := ?_) rfl (by kernel_rfl) (fun _ _ _ h => h) (Or.inl ⟨by rfl, ?_⟩) HS.out ?_
            rotate_left
            · intro w9 hSw; (try dsimp only at hSw); go_simp; try (with_reducible rfl)
            try simp only [Act.put, List.setIfInBounds_toArray, List.set_cons_zero, List.set_cons_succ]
            refine anyR_take (i := 29) (oi := { dst := some 137, op := Go.Op.pick (Go.Operand.tmp 133) (Go.Operand.const (Go.Value.bool true)) (Go.Operand.tmp 136), type := 4, pos := "law.go:178", after := #[{ on := 25, ground := Go.Ground.data }, { on := 28, ground := Go.Ground.data }], guard := none }) (v := ?_) rfl (by kernel_rfl) (fun _ _ _ h => h) (Or.inl ⟨by rfl, ?_⟩) HS.out ?_
            rotate_left
            · intro w9 hSw; (try dsimp only at hSw); go_simp; try (with_reducible rfl)
            try simp only [Act.put, List.setIfInBounds_toArray, List.set_cons_zero, List.set_cons_succ]
            refine anyR_done (by kernel_rfl) ?_ _
            have HN3 : Hid (NestI W1 l E (cst op', l.drop n) (i + 1) Vd o (k + 1) (.slice Ao o.length co)) := Lib.hid ⟨by rw [HDR.out]; simpa using HR.out, HH.out.below.trans (HBD.out.mono HH.out.below.size), own_move HH.out.open_ (fun q hq => HBD.out.block q (own_lt HH.out.open_ q hq)), HH.out.most, HKL.out⟩
            clear x0 x1 x2 x3 x4 x5 x6 x7 l0 l1 l2 l3 l4 l5
            go_wp2
            go_roundw
            case rel => exact ⟨i + 1, by omega, by go_num, k + 1, by first | rfl | go_num, Lib.hid ⟨_, HN3.out⟩⟩
            case measure => simp [intOf] <;> omega
    · obtain rfl : i = E.length := by omega
      have hrun := H.run
      rw [List.drop_length] at hrun
      simp only [nest, Option.some.injEq, Prod.mk.injEq] at hrun
      obtain ⟨hro, hrl⟩ := hrun
      obtain ⟨hn2, hn3, hn4⟩ := HN.out
      obtain rfl := drop_eq H.kle hn2 hrl
      have hq : ¬ ((E.length : Int) < (E.length : Int)) := by omega
      have HBW := Lib.hid (HB2.out.trans (H.below.mono HB2.out.size))
      obtain ⟨Ao, co, hvo, -⟩ := row_slice H.open_
      subst hvo
      clear HI0
      by_cases her : er = 0
      · obtain ⟨h1, h2⟩ := hn3 her
        subst her; subst h1; subst h2
        obtain rfl : o = [] := hro
        clear H hn2 hn3 hn4
        rw [List.length_nil]
        go_wp2
        go_ret
        exact ⟨rfl, HBW.out⟩
      · obtain ⟨h1, h2⟩ := hn4 her
        clear hn4 hn3
        by_cases h3 : k = l.length
        · have e1 := h1.2 h3
          subst e1; subst h3
          clear H h1 h2 hn2 hro hrl her
          go_wp2
          go_ret
          exact ⟨rfl, HBW.out⟩
        · have e2 : er = 120 ∨ er = 122 := by
            rcases h2 with h | h | h
            · exact .inl h
            · exact absurd (h1.1 h) h3
            · exact .inr h
          have e3 : ((k : Int) == (l.length : Int)) = false := by rw [beq_eq_false_iff_ne]; omega
          have e4 : ¬ ((k : Int) = (l.length : Int)) := by omega
          have e5 : ¬ (k = l.length) := h3
          clear H h1 h2 hn2 hro hrl her h3
          rcases e2 with rfl | rfl
          · go_wp2
            go_ret
            exact ⟨rfl, HBW.out⟩
          · go_wp2
            go_ret
            exact ⟨rfl, HBW.out⟩
end Go.Proofs.Ytmjbpgnjgblnmaa
