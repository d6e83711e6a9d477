/- ParseNotes: the walk. (Printed by genno.py.) -/
import Derived.Test.YtmjbpgnjgblnmaaNo0
set_option linter.unusedVariables false
set_option linter.unusedSimpArgs false
namespace Go.Proofs.Ytmjbpgnjgblnmaa
open Go.RowKit Go.Proofs.YtmjbpgnjgblnmaaW.PrintWords Go.Proofs.YtmjbpgnjgblnmaaW.PrintLast Go.Proofs.YtmjbpgnjgblnmaaW.PrintMore

theorem idx_nums {i n : Nat} (h : i < n) (hn : n ≤ 9223372036854775807) : (i : Int) < (n : Int) ∧ (0 : Int) ≤ (i : Int) ∧ wrap64 ((i : Int) + 1) = (i : Int) + 1 ∧ IntKind.i64.wrap ((i : Int) + 1) = (i : Int) + 1 ∧ ¬ ((n : Int) ≤ (i : Int)) := by
  simp only [IntKind.wrap_i64]
  unfold wrap64
  omega
theorem row_cap {w : World} {base : Nat} {e : TypeId} {size n c : Nat} {A : Option Addr} {xs : List Value} (h : w.ownsRow base e size (.slice A n c) n xs) : n ≤ c := by
  obtain ⟨A2, c2, hv, hc⟩ := row_slice h
  injection hv with h1 h2 h3
  omega
theorem row_max9 {w : World} {base : Nat} {e : TypeId} {size n : Nat} {v : Value} {xs : List Value} (h : w.ownsRow base e size v n xs) : n ≤ 9223372036854775807 := by
  rcases h.2 with ⟨_, hn⟩ | ⟨g, cap, cur, rfl, hb, hh, hl, hm, hs, ht⟩
  · omega
  · simp only [maxLen] at hm
    omega
set_option maxRecDepth 100000 in
set_option maxHeartbeats 8000000 in
theorem notes_any (A : Option Addr) (c : Nat) (l : List Tk) (w : World) (hC : Kd.C kTk w A l.length l) (hc : l.length ≤ c) (hl : l.length ≤ 1048576) :
    Calls Try.prog 5 #[.slice A l.length c] w fun e w' => e = .returned (.bool true) ∧ Below w.heap.size w w' := by
  obtain ⟨hn1, hn2⟩ := notes_all l
  have hall : ∀ w1, Below w.heap.size w w1 → Calls Try.prog 14 #[.slice A l.length c] w1 (AllPost l w1) := fun w1 hb => all_any A c l w1 (Kd.C_below hC hb) hc hl
  have hfl : (l.filter notNote).length ≤ 1048576 := Nat.le_trans (List.length_filter_le _ _) hl
  have hall2 : ∀ (w1 : World) (A2 : Option Addr) (c2 : Nat), Kd.C kTk w1 A2 (l.filter notNote).length (l.filter notNote) → (l.filter notNote).length ≤ c2 → Calls Try.prog 14 #[.slice A2 (l.filter notNote).length c2] w1 (AllPost (l.filter notNote) w1) := fun w1 A2 c2 hC2 hc2 => all_any A2 c2 _ w1 hC2 hc2 hfl
  unfold AllPost at hall hall2
  obtain ⟨⟨E, er, n⟩, hap⟩ : ∃ ap, allP newPar l = ap := ⟨_, rfl⟩
  obtain ⟨⟨F, er2, n2⟩, haq⟩ : ∃ ap, allP newPar (l.filter notNote) = ap := ⟨_, rfl⟩
  rw [hap, haq] at hn1 hn2
  rw [hap] at hall
  rw [haq] at hall2
  dsimp only at hn1 hn2 hall hall2
  subst hn1
  have HC := Lib.hid hC
  have HL := Lib.hid hl
  have HN2 := Lib.hid hn2
  have HALL := Lib.hid hall
  have HALL2 := Lib.hid hall2
  have HAW := Lib.hid (awake_any w)
  clear hC hc hl hn2 hall hall2 hap haq hfl
  go_enter Try.func5, Try.ntmps5
  have gl : ¬ ((1048576 : Int) < (l.length : Int)) := by have := HL.out; omega
  go_wp2_with (go_at_call 8; (with_reducible refine Calls.mono HAW.out ?_); rintro e W1 ⟨rfl, hb1⟩; have HB1 := Lib.hid hb1; clear hb1)
  clear HAW gl
  have HI0 : Hid (FilI W1 l 0 W1 (.slice none 0 0)) := Lib.hid ⟨Below.refl _ _, nil_row _ _ _ _⟩
  go_loopw [4, 5] (fun v4 v5 wr => ∃ i : Nat, i ≤ l.length ∧ v5 = .int .i64 i ∧ Hid (FilI W1 l i wr v4)) (fun v4 v5 _ => l.length - (intOf v5).toNat)
  case atStart => exact ⟨0, Nat.zero_le _, rfl, HI0⟩
  case round =>
    obtain ⟨i, hi, rfl, H⟩ := hrel
    by_cases hlt : i < l.length
    · obtain ⟨ad, rfl, hcells⟩ := tok_cells HC.out i hlt
      have htr := take_rd l i hlt
      obtain ⟨t, ht⟩ : ∃ t, PParseNotes.rd_T35 l i = t := ⟨_, rfl⟩
      rw [ht] at hcells htr
      obtain ⟨c0, c1, c2, c3, c4, c5⟩ := hcells wr (HB1.out.trans (H.out.below.mono HB1.out.size))
      obtain ⟨g1, g2, g3, g4, g5⟩ := idx_nums hlt (by have := HL.out; omega)
      have HTR := Lib.hid htr
      obtain ⟨k7, hk7⟩ : ∃ k7, (t.f0 == 7) = k7 := ⟨_, rfl⟩
      obtain ⟨k8, hk8⟩ : ∃ k8, (t.f0 == 8) = k8 := ⟨_, rfl⟩
      have m7 : (t.f0 != 7) = !k7 := by rw [bne, hk7]
      have m8 : (t.f0 != 8) = !k8 := by rw [bne, hk8]
      have HK := Lib.hid (And.intro hk7 hk8)
      clear ht htr hcells HI0 hk7 hk8
      have hcl : ∀ b : Bool, (k7 || k8) = b → notNote t = !b := fun b hb => by unfold notNote isNote; rw [HK.out.1, HK.out.2, hb]
      by_cases hk : (k7 || k8) = true
      · have HNX : Hid (FilI W1 l (i + 1) wr u4) := Lib.hid ⟨H.out.below, by rw [HTR.out, List.filter_append, show List.filter notNote [t] = [] by simp [hcl true hk], List.append_nil]; exact H.out.row⟩
        cases k7 with
        | true =>
          clear hcl hk m8
          go_wp2
          go_roundw
          case rel => exact ⟨i + 1, by omega, by go_num, HNX⟩
          case measure => simp [intOf] <;> omega
        | false =>
          obtain rfl : k8 = true := by simpa using hk
          clear hcl hk
          go_wp2
          go_roundw
          case rel => exact ⟨i + 1, by omega, by go_num, HNX⟩
          case measure => simp [intOf] <;> omega
      · obtain ⟨rfl, rfl⟩ : k7 = false ∧ k8 = false := by simpa using hk
        have hfe : (l.take (i + 1)).filter notNote = (l.take i).filter notNote ++ [t] := by rw [HTR.out, List.filter_append, show List.filter notNote [t] = [t] by simp [hcl false rfl]]
        have HFE := Lib.hid hfe
        have hq : ((l.take i).filter notNote).length ≤ 1048576 := Nat.le_trans (List.length_filter_le _ _) (by rw [List.length_take]; have := HL.out; omega)
        have HQ := Lib.hid hq
        clear hcl hk hfe hq
        go_wp2_with ((with_reducible refine gate_dst (N := 49) rfl ?_); refine print_append_cells (w0 := W1) W1.heap.size rfl (.tmp 43) (.tmp 48) 22 35 _ 6 56 rfl Try.underlying22 infoTk rfl (by decide) (by decide) _ ((l.take i).filter notNote).length (((l.take i).filter notNote).flatMap tkCells) (tkCells t) rfl rfl rfl (tkCells_one t) H.out.row H.out.below H.out.below.size (by have := HQ.out; omega) ?_; intro v3 w3 ho hb3 hg hat; have HNX : Hid (FilI W1 l (i + 1) w3 v3) := Lib.hid ⟨hb3, by rw [HFE.out]; simpa using ho⟩; clear ho hb3 hg hat c0 c1 c2 c3 c4 c5)
        go_roundw
        case rel => exact ⟨i + 1, by omega, by go_num, HNX⟩
        case measure => simp [intOf] <;> omega
    · obtain rfl : i = l.length := by omega
      have g1 : ¬ ((l.length : Int) < (l.length : Int)) := by omega
      have hrow := H.out.row
      rw [List.take_length] at hrow
      have HBW := Lib.hid (HB1.out.trans (H.out.below.mono HB1.out.size))
      have HROW := Lib.hid hrow
      clear HI0 H
      go_wp2_with (first
        | (go_at_call 14; (with_reducible refine Calls.mono (HALL.out _ HBW.out) ?_); rintro e W2 ⟨va, rfl, hva, hb2⟩; have HVA := Lib.hid hva; have HB2 := Lib.hid (HBW.out.trans (hb2.mono HBW.out.size)); have hr2 := own_move HROW.out (fun q hq => hb2.block q (own_lt HROW.out q hq)); obtain ⟨A2, c2, hve, hc2, hC2⟩ := toks_C hr2; subst hve; have HA2 := Lib.hid (HALL2.out _ A2 c2 hC2 hc2); clear hva hb2 hr2 hc2 hC2)
        | (go_at_call 14; (with_reducible refine Calls.mono HA2.out ?_); rintro e W3 ⟨vb, rfl, hvb, hb3⟩; have HVB := Lib.hid hvb; have HVA3 := Lib.hid (own_move HVA.out (fun q hq => hb3.block q (own_lt HVA.out q hq))); have HB3 := Lib.hid (HB2.out.trans (hb3.mono HB2.out.size)); clear hvb hb3))
      clear HALL HALL2 HA2 HVA HROW hrow HBW HB2 HC
      obtain ⟨Ab, cb, hvb, -⟩ := row_slice HVB.out
      subst hvb
      obtain ⟨Aa, ca, hva, -⟩ := row_slice HVA3.out
      subst hva
      rcases HN2.out with hF | ⟨hF, ns, hns0, hE, hns⟩
      · have HI3 : Hid (CmpI W3 E F 0 W3 0) := Lib.hid ⟨Below.refl _ _, by rw [List.drop_zero, List.drop_zero]; exact hF, Nat.zero_le _⟩
        clear hF HN2
        go_loopw [12, 13] (fun v12 v13 wq => ∃ i : Nat, i ≤ E.length ∧ v13 = .int .i64 i ∧ ∃ k : Nat, v12 = .int .i64 k ∧ Hid (CmpI W3 E F i wq k)) (fun v12 v13 _ => E.length - (intOf v13).toNat)
        case atStart => exact ⟨0, Nat.zero_le _, rfl, 0, rfl, HI3⟩
        case round =>
          obtain ⟨i, hi, rfl, k, rfl, H⟩ := hrel
          by_cases hlt : i < E.length
          · obtain ⟨e, he⟩ : ∃ e, E[i]? = some e := ⟨_, List.getElem?_eq_getElem hlt⟩
            obtain ⟨ga, ca2, hva, hcells⟩ := ev_at HVA3.out he
            injection hva with h1 h2 h3
            subst h1; subst h3
            clear h2
            have hrest := H.out.rest
            rw [drop_get he] at hrest
            obtain ⟨c0, c1, c2, c3, c4, c5, c6, c7⟩ := eight (hcells _ H.out.below)
            rw [Nat.add_zero] at c0
            obtain ⟨g1, g2, g3, g4, g5⟩ := idx_nums hlt (row_max9 HVA3.out)
            obtain ⟨k4, hk4⟩ : ∃ k4, (e.f0 == 4) = k4 := ⟨_, rfl⟩
            cases k4 with
            | true =>
              have HNX : Hid (CmpI W3 E F (i + 1) wr k) := Lib.hid ⟨H.out.below, by rw [← hrest]; simp [notNoteE, hk4], H.out.kle⟩
              clear hrest hcells HI3 he
              go_wp2
              go_roundw
              case rel => exact ⟨i + 1, by omega, by go_num, k, rfl, HNX⟩
              case measure => simp [intOf] <;> omega
            | false =>
              have hfd : F.drop k = e :: (E.drop (i + 1)).filter notNoteE := by rw [← hrest]; simp [notNoteE, hk4]
              have hkl : k < F.length := by
                rcases Nat.lt_or_ge k F.length with h | h
                · exact h
                · rw [List.drop_of_length_le h] at hfd; cases hfd
              have hfk : F[k]? = some e := by
                have h := congrArg List.head? hfd
                rw [List.head?_drop] at h
                simpa using h
              have hdk := drop_get hfk
              rw [hfd] at hdk
              injection hdk with _ hdk
              obtain ⟨gb, cb2, hvb, hcells2⟩ := ev_at HVB.out hfk
              injection hvb with h1 h2 h3
              subst h1; subst h3
              clear h2
              obtain ⟨d0, d1, d2, d3, d4, d5, d6, d7⟩ := eight (hcells2 _ H.out.below)
              rw [Nat.add_zero] at d0
              obtain ⟨p1, p2, p3, p4, p5⟩ := idx_nums hkl (row_max9 HVB.out)
              have HH := H
              have HDK := Lib.hid hdk
              have HKL : Hid (k + 1 ≤ F.length) := Lib.hid hkl
              clear hrest hcells hcells2 HI3 he hfd hkl hfk hdk
              go_upto_region 21 with (fail)
              obtain ⟨Wd, hWd⟩ : ∃ V, wr.drew = V := ⟨_, rfl⟩
              have hbd : Below wr.heap.size wr Wd := by rw [← hWd]; exact (Below.refl _ wr).drew
              have HS := Lib.hid (show Wd.cell? ⟨ga, i * 8, none⟩ = some (.int .u8 e.f0) ∧ Wd.cell? ⟨ga, i * 8 + 1, none⟩ = some (.int .u8 e.f1) ∧ Wd.cell? ⟨ga, i * 8 + 2, none⟩ = some (.int .u8 e.f2.f0) ∧ Wd.cell? ⟨ga, i * 8 + 3, none⟩ = some (.string e.f2.f1) ∧ Wd.cell? ⟨ga, i * 8 + 4, none⟩ = some (.int .i64 e.f2.f2.f0) ∧ Wd.cell? ⟨ga, i * 8 + 5, none⟩ = some (.int .i64 e.f2.f2.f1) ∧ Wd.cell? ⟨ga, i * 8 + 6, none⟩ = some (.int .i64 e.f2.f2.f2) ∧ Wd.cell? ⟨ga, i * 8 + 7, none⟩ = some (.int .i64 e.f2.f3) ∧ Wd.cell? ⟨gb, k * 8, none⟩ = some (.int .u8 e.f0) ∧ Wd.cell? ⟨gb, k * 8 + 1, none⟩ = some (.int .u8 e.f1) ∧ Wd.cell? ⟨gb, k * 8 + 2, none⟩ = some (.int .u8 e.f2.f0) ∧ Wd.cell? ⟨gb, k * 8 + 3, none⟩ = some (.string e.f2.f1) ∧ Wd.cell? ⟨gb, k * 8 + 4, none⟩ = some (.int .i64 e.f2.f2.f0) ∧ Wd.cell? ⟨gb, k * 8 + 5, none⟩ = some (.int .i64 e.f2.f2.f1) ∧ Wd.cell? ⟨gb, k * 8 + 6, none⟩ = some (.int .i64 e.f2.f2.f2) ∧ Wd.cell? ⟨gb, k * 8 + 7, none⟩ = some (.int .i64 e.f2.f3) from ⟨pw_cell_below hbd c0, pw_cell_below hbd c1, pw_cell_below hbd c2, pw_cell_below hbd c3, pw_cell_below hbd c4, pw_cell_below hbd c5, pw_cell_below hbd c6, pw_cell_below hbd c7, pw_cell_below hbd d0, pw_cell_below hbd d1, pw_cell_below hbd d2, pw_cell_below hbd d3, pw_cell_below hbd d4, pw_cell_below hbd d5, pw_cell_below hbd d6, pw_cell_below hbd d7⟩)
              have HNX : Hid (CmpI W3 E F (i + 1) Wd (k + 1)) := Lib.hid ⟨HH.out.below.trans (hbd.mono HH.out.below.size), HDK.out, HKL.out⟩
              have HWd := Lib.hid hWd
              clear hbd hWd
              refine wp_region_R (fun w' => w'.cell? ⟨ga, i * 8, none⟩ = some (.int .u8 e.f0) ∧ w'.cell? ⟨ga, i * 8 + 1, none⟩ = some (.int .u8 e.f1) ∧ w'.cell? ⟨ga, i * 8 + 2, none⟩ = some (.int .u8 e.f2.f0) ∧ w'.cell? ⟨ga, i * 8 + 3, none⟩ = some (.string e.f2.f1) ∧ w'.cell? ⟨ga, i * 8 + 4, none⟩ = some (.int .i64 e.f2.f2.f0) ∧ w'.cell? ⟨ga, i * 8 + 5, none⟩ = some (.int .i64 e.f2.f2.f1) ∧ w'.cell? ⟨ga, i * 8 + 6, none⟩ = some (.int .i64 e.f2.f2.f2) ∧ w'.cell? ⟨ga, i * 8 + 7, none⟩ = some (.int .i64 e.f2.f3) ∧ w'.cell? ⟨gb, k * 8, none⟩ = some (.int .u8 e.f0) ∧ w'.cell? ⟨gb, k * 8 + 1, none⟩ = some (.int .u8 e.f1) ∧ w'.cell? ⟨gb, k * 8 + 2, none⟩ = some (.int .u8 e.f2.f0) ∧ w'.cell? ⟨gb, k * 8 + 3, none⟩ = some (.string e.f2.f1) ∧ w'.cell? ⟨gb, k * 8 + 4, none⟩ = some (.int .i64 e.f2.f2.f0) ∧ w'.cell? ⟨gb, k * 8 + 5, none⟩ = some (.int .i64 e.f2.f2.f1) ∧ w'.cell? ⟨gb, k * 8 + 6, none⟩ = some (.int .i64 e.f2.f2.f2) ∧ w'.cell? ⟨gb, k * 8 + 7, none⟩ = some (.int .i64 e.f2.f3)) (fun _ => true) (by kernel_rfl) ?_
              rw [HWd.out]
              refine anyR_take (i := 0) (oi := { dst := some 107, op := Go.Op.move (Go.Operand.tmp 6), type := 38, pos := "law.go:220", after := #[], guard := none }) (v := ?_) rfl (by kernel_rfl) (fun _ _ _ h => h) (Or.inl ⟨by rfl, ?_⟩) HS.out ?_
              rotate_left
              · intro w9 hSw; (try dsimp only at hSw); go_simp; try (with_reducible rfl)
              try simp only [Act.put, List.setIfInBounds_toArray, List.set_cons_zero, List.set_cons_succ]
              refine anyR_take (i := 1) (oi := { dst := some 108, op := Go.Op.move (Go.Operand.tmp 13), type := 3, pos := "law.go:220", after := #[], guard := none }) (v := ?_) rfl (by kernel_rfl) (fun _ _ _ h => h) (Or.inl ⟨by rfl, ?_⟩) HS.out ?_
              rotate_left
              · intro w9 hSw; (try dsimp only at hSw); go_simp; try (with_reducible rfl)
              try simp only [Act.put, List.setIfInBounds_toArray, List.set_cons_zero, List.set_cons_succ]
              refine anyR_take (i := 2) (oi := { dst := some 109, op := Go.Op.indexAddr 38 (Go.Operand.tmp 107) (Go.Operand.tmp 108), type := 0, pos := "law.go:220", after := #[{ on := 0, ground := Go.Ground.data }, { on := 1, ground := Go.Ground.data }], guard := none }) (v := ?_) rfl (by kernel_rfl) (fun _ _ _ h => h) (Or.inl ⟨by rfl, ?_⟩) HS.out ?_
              rotate_left
              · intro w9 hSw; (try dsimp only at hSw); go_simp; try (with_reducible rfl)
              try simp only [Act.put, List.setIfInBounds_toArray, List.set_cons_zero, List.set_cons_succ]
              refine anyR_take (i := 3) (oi := { dst := some 110, op := Go.Op.load 46 (Go.Operand.tmp 109), type := 46, pos := "law.go:220", after := #[{ on := 2, ground := Go.Ground.data }], guard := none }) (v := ?_) rfl (by kernel_rfl) (fun _ _ _ h => h) (Or.inl ⟨by rfl, ?_⟩) HS.out ?_
              rotate_left
              · intro w9 hSw; (try dsimp only at hSw); go_simp; try (with_reducible rfl)
              try simp only [Act.put, List.setIfInBounds_toArray, List.set_cons_zero, List.set_cons_succ]
              refine anyR_take (i := 4) (oi := { dst := some 111, op := Go.Op.move (Go.Operand.tmp 9), type := 38, pos := "law.go:220", after := #[], guard := none }) (v := ?_) rfl (by kernel_rfl) (fun _ _ _ h => h) (Or.inl ⟨by rfl, ?_⟩) HS.out ?_
              rotate_left
              · intro w9 hSw; (try dsimp only at hSw); go_simp; try (with_reducible rfl)
              try simp only [Act.put, List.setIfInBounds_toArray, List.set_cons_zero, List.set_cons_succ]
              refine anyR_take (i := 5) (oi := { dst := some 112, op := Go.Op.move (Go.Operand.tmp 12), type := 3, pos := "law.go:220", after := #[], guard := none }) (v := ?_) rfl (by kernel_rfl) (fun _ _ _ h => h) (Or.inl ⟨by rfl, ?_⟩) HS.out ?_
              rotate_left
              · intro w9 hSw; (try dsimp only at hSw); go_simp; try (with_reducible rfl)
              try simp only [Act.put, List.setIfInBounds_toArray, List.set_cons_zero, List.set_cons_succ]
              refine anyR_take (i := 6) (oi := { dst := some 113, op := Go.Op.indexAddr 38 (Go.Operand.tmp 111) (Go.Operand.tmp 112), type := 0, pos := "law.go:220", after := #[{ on := 4, ground := Go.Ground.data }, { on := 5, ground := Go.Ground.data }], guard := none }) (v := ?_) rfl (by kernel_rfl) (fun _ _ _ h => h) (Or.inl ⟨by rfl, ?_⟩) HS.out ?_
              rotate_left
              · intro w9 hSw; (try dsimp only at hSw); go_simp; try (with_reducible rfl)
              try simp only [Act.put, List.setIfInBounds_toArray, List.set_cons_zero, List.set_cons_succ]
              refine anyR_take (i := 7) (oi := { dst := some 114, op := Go.Op.load 46 (Go.Operand.tmp 113), type := 46, pos := "law.go:220", after := #[{ on := 6, ground := Go.Ground.data }], guard := none }) (v := ?_) rfl (by kernel_rfl) (fun _ _ _ h => h) (Or.inl ⟨by rfl, ?_⟩) HS.out ?_
              rotate_left
              · intro w9 hSw; (try dsimp only at hSw); go_simp; try (with_reducible rfl)
              try simp only [Act.put, List.setIfInBounds_toArray, List.set_cons_zero, List.set_cons_succ]
              refine anyR_take (i := 8) (oi := { dst := some 115, op := Go.Op.binOp Go.BinOp.neq 46 (Go.Operand.tmp 110) (Go.Operand.tmp 114) 46, type := 4, pos := "law.go:220", after := #[{ on := 3, ground := Go.Ground.data }, { on := 7, ground := Go.Ground.data }], guard := none }) (v := ?_) rfl (by kernel_rfl) (fun _ _ _ h => h) (Or.inl ⟨by rfl, ?_⟩) HS.out ?_
              rotate_left
              · intro w9 hSw; (try dsimp only at hSw); go_simp; try (with_reducible rfl)
              try simp only [Act.put, List.setIfInBounds_toArray, List.set_cons_zero, List.set_cons_succ]
              refine anyR_done (by kernel_rfl) ?_ _
              clear c0 c1 c2 c3 c4 c5 c6 c7 d0 d1 d2 d3 d4 d5 d6 d7
              go_wp2
              go_roundw
              case rel => exact ⟨i + 1, by omega, by go_num, k + 1, by go_num, HNX⟩
              case measure => simp [intOf] <;> omega
          · obtain rfl : i = E.length := by omega
            have hrest := H.out.rest
            rw [List.drop_length] at hrest
            have hkF : k = F.length := by
              have h := congrArg List.length hrest
              have := H.out.kle
              rw [List.length_drop] at h
              simp only [List.filter_nil, List.length_nil] at h
              omega
            subst hkF
            have HBX := Lib.hid (HB3.out.trans (H.out.below.mono HB3.out.size))
            have g1 : ¬ ((E.length : Int) < (E.length : Int)) := by omega
            clear hrest HI3 H
            go_wp2
            go_ret
            exact ⟨rfl, HBX.out⟩
      · subst hF; subst hE
        have hnl : 0 < ns.length := List.length_pos_iff.2 hns0
        obtain ⟨ga, ca2, hva, hcells⟩ := ev_at (i := 0) HVA3.out rfl
        injection hva with h1 h2 h3
        subst h1; subst h3
        clear h2
        have hnt := noted_tail (V := W3) HVA3.out hns hns0
        have HNT := Lib.hid hnt
        have HC3 := Lib.hid (hcells W3 (Below.refl _ _))
        clear hnt hcells HN2
        go_loopw [12, 13] (fun v12 v13 wq => v12 = .int .i64 0 ∧ v13 = .int .i64 0 ∧ Hid (wq = W3)) (fun v12 v13 _ => 0)
        case atStart => exact ⟨rfl, rfl, Lib.hid rfl⟩
        case round =>
          obtain ⟨rfl, rfl, H⟩ := hrel
          have hw := H.out
          subst hw
          obtain ⟨c0, c1, c2, c3, c4, c5, c6, c7⟩ := eight HC3.out
          simp only [Nat.zero_mul, Nat.add_zero, Nat.zero_add] at c0 c1 c2 c3 c4 c5 c6 c7
          rw [List.length_cons]
          have g1 : (0 : Int) < (ns.length : Int) + 1 := by omega
          have g2 : (1 : Int) < (ns.length : Int) + 1 := by omega
          have g3 : (1 : Int) ≤ (ns.length : Int) + 1 := by omega
          have g4 : (0 : Int) < (ns.length : Int) := by omega
          have hca := row_cap HVA3.out
          rw [List.length_cons] at hca
          have g5 : (1 : Int) ≤ (ca : Int) := by omega
          have g6 : (ns.length : Int) + 1 ≤ (ca : Int) := by omega
          have g7 : ¬ (ca = 1) := by omega
          have g8 : 1 ≤ ns.length + 1 := by omega
          have g9 : ns.length + 1 ≤ ca := hca
          have c0' : wr.cell? ⟨ga, 0, none⟩ = some (.int .u8 1) := c0
          have c1' : wr.cell? ⟨ga, 1, none⟩ = some (.int .u8 1) := c1
          clear c0 c1 c2 c3 c4 c5 c6 c7 hca hnl H
          go_wp2_with (go_at_call 15; (with_reducible refine Calls.mono HNT.out ?_); rintro e w5 ⟨rfl, hb5⟩; have HB5 := Lib.hid (HB3.out.trans (hb5.mono HB3.out.size)); clear hb5)
          go_ret
          exact ⟨rfl, HB5.out⟩
end Go.Proofs.Ytmjbpgnjgblnmaa
