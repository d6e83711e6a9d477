/- Put: the walk. (Printed by genput.py.) -/
import Derived.Test.YtmjbpgnjgblnmaaTok
set_option linter.unusedVariables false
set_option linter.unusedSimpArgs false
namespace Go.Proofs.Ytmjbpgnjgblnmaa
open Go.RowKit Go.Proofs.YtmjbpgnjgblnmaaW.PrintWords Go.Proofs.YtmjbpgnjgblnmaaW.PrintLast Go.Proofs.YtmjbpgnjgblnmaaW.PrintMore

theorem six_cells {w : World} {g : Nat} {T : TypeId} {a b c d e f : Value} (h : w.heap[g]? = some (.cells #[a, b, c, d, e, f] T (0, 0))) :
    w.cell? ⟨g, 0, none⟩ = some a ∧ w.cell? ⟨g, 1, none⟩ = some b ∧ w.cell? ⟨g, 2, none⟩ = some c ∧ w.cell? ⟨g, 3, none⟩ = some d ∧ w.cell? ⟨g, 4, none⟩ = some e ∧ w.cell? ⟨g, 5, none⟩ = some f :=
  ⟨cell_of_row _ _ _ _ _ _ h, cell_of_row _ _ _ _ _ _ h, cell_of_row _ _ _ _ _ _ h, cell_of_row _ _ _ _ _ _ h, cell_of_row _ _ _ _ _ _ h, cell_of_row _ _ _ _ _ _ h⟩
theorem below_drew (w : World) : Below w.heap.size w w.drew := (Below.refl _ w).drew
/-- The parser and its state. -/
structure PIn (w : World) (p : Nat) (P : Par) (es : List Ev) (vt ve : Value) : Prop where
  at_ : PAt w p P.todo es P.depth P.begun P.wrong P.closed vt ve
  ends : Ends P.todo
  bt : P.todo.length ≤ 2147483648
  bd1 : -2147483648 ≤ P.depth
  bd2 : P.depth ≤ 2147483648
def PutPost (p : Nat) (P : Par) (vt ve : Value) (t : Tk) (w : World) (e : Ending) (w' : World) : Prop :=
  ∃ v es' vt' ve', e = .returned (.tuple #[v, .int .i64 (put P t).2.1]) ∧ PAt w' p (put P t).2.2.todo es' (put P t).2.2.depth (put P t).2.2.begun (put P t).2.2.wrong (put P t).2.2.closed vt' ve' ∧ PStep p vt ve w vt' ve' w' ∧
    w'.ownsRow p 46 8 v (put P t).1.length ((put P t).1.flatMap evCells) ∧ (v = ve' ∨ v = .slice none 0 0)
theorem nil_row (w : World) (base : Nat) (e : TypeId) (size : Nat) : w.ownsRow base e size (.slice none 0 0) 0 [] := ⟨by simp, .inl ⟨rfl, rfl⟩⟩
set_option maxRecDepth 100000 in
set_option maxHeartbeats 8000000 in
theorem put_any (p : Nat) (P : Par) (es : List Ev) (vt ve : Value) (t : Tk) (w : World) (hP : PIn w p P es vt ve) :
    Calls Try.prog 24 #[.pointer (some ⟨p, 0, none⟩), .agg #[.int .u8 t.f0, .string t.f1, .int .i64 t.f2.f0, .int .i64 t.f2.f1, .int .i64 t.f2.f2, .int .i64 t.f3]] w (PutPost p P vt ve t w) := by
  obtain ⟨h1, h2, -⟩ := hP.at_.fresh (.cells #[.int .u8 t.f0, .string t.f1, .int .i64 t.f2.f0, .int .i64 t.f2.f1, .int .i64 t.f2.f2, .int .i64 t.f3] 35)
  obtain ⟨W0, hW0⟩ : ∃ V, w.alloc (.cells #[.int .u8 t.f0, .string t.f1, .int .i64 t.f2.f0, .int .i64 t.f2.f1, .int .i64 t.f2.f2, .int .i64 t.f3] 35) = V := ⟨_, rfl⟩
  have hT0 : W0.heap[w.heap.size]? = some (.cells #[.int .u8 t.f0, .string t.f1, .int .i64 t.f2.f0, .int .i64 t.f2.f1, .int .i64 t.f2.f2, .int .i64 t.f3] 35 (0, 0)) := by rw [← hW0]; exact World.alloc_heap_new _ _
  rw [hW0] at h1 h2
  have HW0 := Lib.hid hW0
  have HT0 := Lib.hid hT0
  have HP0 := Lib.hid h1
  have HS0 := Lib.hid h2
  have HIN := Lib.hid (And.intro hP.ends (And.intro hP.bt (And.intro hP.bd1 hP.bd2)))
  obtain ⟨c0, c1, c2, c3, c4, c5⟩ := six_cells hT0
  obtain ⟨q0, q1, q2, q3, q4, q5⟩ := h1.cell
  clear hP h1 h2 hT0 hW0
  obtain ⟨todo, d, b, wr, cl⟩ := P
  dsimp only at q0 q1 q2 q3 q4 q5
  go_enter Try.func24, Try.ntmps24
  go_upto_region 1 with (fail)
  rw [HW0.out]
  clear HW0
  cases cl with
  | true =>
    have hput : put ⟨todo, d, b, wr, true⟩ t = ([], 4, ⟨todo, d, b, wr, true⟩) := by unfold put; simp
    have HPU := Lib.hid hput
    clear hput
    go_wp2
    go_ret2
    unfold PutPost
    rw [HPU.out]
    refine ⟨_, _, _, _, rfl, HP0.out, HS0.out, nil_row _ _ _ _, .inr rfl⟩
  | false =>
    by_cases hwr : wr = 0
    · subst hwr
      obtain ⟨k7, hk7⟩ : ∃ k7, (t.f0 == 7) = k7 := ⟨_, rfl⟩
      obtain ⟨k8, hk8⟩ : ∃ k8, (t.f0 == 8) = k8 := ⟨_, rfl⟩
      cases b with
      | true =>
        have HSR := Lib.hid (PStep.refl p vt ve W0)
        cases k7 with
        | true =>
          have hn : isNote t = true := by unfold isNote; rw [hk7, hk8]; rfl
          have hput : put ⟨todo, d, true, 0, false⟩ t = ([] ++ [noteE t], 0, ⟨todo, d, true, 0, false⟩) := by unfold put preE preD; simp [hn]
          have HPU := Lib.hid hput
          clear hput hn
          go_upto_region 13 with (first
            | ((with_reducible refine gate_ (.store 38 (.tmp 31) (.const (.slice none 0 0))) rfl ?_); refine wl_cells rfl rfl _ _ _ rfl (g := p) (off := 1) (.slice none 0 0) [.slice none 0 0] rfl rfl rfl (by kernel_rfl) (fun v hv => by rw [List.mem_singleton.1 hv]; rfl) HP0.out.box (by simp) ?_; intro V1 hV; obtain ⟨hA, hS⟩ := HP0.out.upd 1 (.slice none 0 0) (by decide) (s' := todo) (es' := []) (d' := d) (b' := true) (wr' := 0) (cl' := false) (vt' := vt) (ve' := .slice none 0 0) rfl HP0.out.todo (nil_row _ _ _ _) (fun _ h => h) (fun _ h => by cases h); rw [← hV] at hA hS; have HP1 := Lib.hid hA; have HS1 := Lib.hid (HSR.out.trans hS); clear q0 q1 q2 q3 q4 q5 c0 c1 c2 c3 c4 c5 hV; obtain ⟨q0, q1, q2, q3, q4, q5⟩ := hA.cell; obtain ⟨c0, c1, c2, c3, c4, c5⟩ := six_cells (HS1.out.keep HP0.out HT0.out (by decide) (by decide) (by decide)); clear hA hS))
          obtain ⟨W6, hW6⟩ : ∃ V, V1.drew = V := ⟨_, rfl⟩
          have hb6 : Below V1.heap.size V1 W6 := by rw [← hW6]; exact (Below.refl _ V1).drew
          have hS6 : ∀ V, Below V1.heap.size V1 V → V.cell? ⟨p, 1, none⟩ = some (.slice none 0 0) ∧ V.cell? ⟨w.heap.size, 0, none⟩ = some (.int .u8 t.f0) ∧ V.cell? ⟨w.heap.size, 1, none⟩ = some (.string t.f1) ∧ V.cell? ⟨w.heap.size, 2, none⟩ = some (.int .i64 t.f2.f0) ∧ V.cell? ⟨w.heap.size, 3, none⟩ = some (.int .i64 t.f2.f1) ∧ V.cell? ⟨w.heap.size, 4, none⟩ = some (.int .i64 t.f2.f2) ∧ V.cell? ⟨w.heap.size, 5, none⟩ = some (.int .i64 t.f3) := fun V hV => ⟨pw_cell_below hV q1, pw_cell_below hV c0, pw_cell_below hV c1, pw_cell_below hV c2, pw_cell_below hV c3, pw_cell_below hV c4, pw_cell_below hV c5⟩
          have HSA := Lib.hid hS6
          have HS6 := Lib.hid (hS6 W6 hb6)
          have HB6 := Lib.hid hb6
          have HW6 := Lib.hid hW6
          have HP6 := Lib.hid (HP1.out.below hb6)
          have HT6 := Lib.hid ((HS1.out.trans (PStep.below hb6)).keep HP0.out HT0.out (by decide) (by decide) (by decide))
          clear hS6 hb6 hW6
          refine wp_region_R (fun w' => w'.cell? ⟨p, 1, none⟩ = some (.slice none 0 0) ∧ w'.cell? ⟨w.heap.size, 0, none⟩ = some (.int .u8 t.f0) ∧ w'.cell? ⟨w.heap.size, 1, none⟩ = some (.string t.f1) ∧ w'.cell? ⟨w.heap.size, 2, none⟩ = some (.int .i64 t.f2.f0) ∧ w'.cell? ⟨w.heap.size, 3, none⟩ = some (.int .i64 t.f2.f1) ∧ w'.cell? ⟨w.heap.size, 4, none⟩ = some (.int .i64 t.f2.f2) ∧ w'.cell? ⟨w.heap.size, 5, none⟩ = some (.int .i64 t.f3)) (fun j => !(Nat.beq j 11)) (by kernel_rfl) ?_
          rw [HW6.out]
          refine anyR_take (i := 0) (oi := { dst := some 62, op := Go.Op.move (Go.Operand.tmp 0), type := 24, pos := "parse.go:107", after := #[], guard := none }) (v := ?_) rfl (by kernel_rfl) (fun _ _ _ h => h) (Or.inl ⟨by rfl, ?_⟩) HS6.out ?_
          rotate_left
          · intro w9 hSw; (try dsimp only at hSw); go_simp; try (with_reducible rfl)
          try simp only [Act.put, List.setIfInBounds_toArray, List.set_cons_zero, List.set_cons_succ]
          refine anyR_take (i := 1) (oi := { dst := some 63, op := Go.Op.move (Go.Operand.tmp 0), type := 24, pos := "parse.go:107", after := #[], guard := none }) (v := ?_) rfl (by kernel_rfl) (fun _ _ _ h => h) (Or.inl ⟨by rfl, ?_⟩) HS6.out ?_
          rotate_left
          · intro w9 hSw; (try dsimp only at hSw); go_simp; try (with_reducible rfl)
          try simp only [Act.put, List.setIfInBounds_toArray, List.set_cons_zero, List.set_cons_succ]
          refine anyR_take (i := 2) (oi := { dst := some 64, op := Go.Op.nilCheck (Go.Operand.tmp 63), type := 0, pos := "parse.go:107", after := #[{ on := 1, ground := Go.Ground.data }], guard := none }) (v := ?_) rfl (by kernel_rfl) (fun _ _ _ h => h) (Or.inl ⟨by rfl, ?_⟩) HS6.out ?_
          rotate_left
          · intro w9 hSw; (try dsimp only at hSw); go_simp; try (with_reducible rfl)
          try simp only [Act.put, List.setIfInBounds_toArray, List.set_cons_zero, List.set_cons_succ]
          refine anyR_take (i := 3) (oi := { dst := some 65, op := Go.Op.fieldAddr 67 (Go.Operand.tmp 64) 1, type := 0, pos := "parse.go:107", after := #[{ on := 2, ground := Go.Ground.data }], guard := none }) (v := ?_) rfl (by kernel_rfl) (fun _ _ _ h => h) (Or.inl ⟨by rfl, ?_⟩) HS6.out ?_
          rotate_left
          · intro w9 hSw; (try dsimp only at hSw); go_simp; try (with_reducible rfl)
          try simp only [Act.put, List.setIfInBounds_toArray, List.set_cons_zero, List.set_cons_succ]
          refine anyR_take (i := 4) (oi := { dst := some 66, op := Go.Op.load 38 (Go.Operand.tmp 65), type := 38, pos := "parse.go:107", after := #[{ on := 3, ground := Go.Ground.data }], guard := none }) (v := ?_) rfl (by kernel_rfl) (fun _ _ _ h => h) (Or.inl ⟨by rfl, ?_⟩) HS6.out ?_
          rotate_left
          · intro w9 hSw; (try dsimp only at hSw); go_simp; try (with_reducible rfl)
          try simp only [Act.put, List.setIfInBounds_toArray, List.set_cons_zero, List.set_cons_succ]
          refine anyR_take (i := 5) (oi := { dst := some 67, op := Go.Op.load 35 (Go.Operand.tmp 3), type := 35, pos := "parse.go:107", after := #[], guard := none }) (v := ?_) rfl (by kernel_rfl) (fun _ _ _ h => h) (Or.inl ⟨by rfl, ?_⟩) HS6.out ?_
          rotate_left
          · intro w9 hSw; (try dsimp only at hSw); go_simp; try (with_reducible rfl)
          try simp only [Act.put, List.setIfInBounds_toArray, List.set_cons_zero, List.set_cons_succ]
          refine anyR_take (i := 6) (oi := { dst := some 68, op := Go.Op.build 46 #[(0, Go.Operand.const (Go.Value.int Go.IntKind.u8 4)), (2, Go.Operand.tmp 67)], type := 46, pos := "parse.go:107", after := #[{ on := 5, ground := Go.Ground.data }], guard := none }) (v := ?_) rfl (by kernel_rfl) (fun _ _ _ h => h) (Or.inl ⟨by rfl, ?_⟩) HS6.out ?_
          rotate_left
          · intro w9 hSw; (try dsimp only at hSw); go_simp; try (with_reducible rfl)
          try simp only [Act.put, List.setIfInBounds_toArray, List.set_cons_zero, List.set_cons_succ]
          refine anyR_ready (rs := [7]) (by kernel_rfl) (by simp) ?_
          refine ReadyR.cons (o := { dst := some 69, op := Go.Op.buildSlice 38 1 #[(0, Go.Operand.tmp 68)], type := 38, pos := "parse.go:107", after := #[{ on := 6, ground := Go.Ground.data }], guard := none }) rfl (fun K hK => ?_) ReadyR.nil
          go_simp
          refine hK.out _ _ (fun _ => HSA.out _ (HB6.out.alloc HB6.out.size _)) ?_
          clear hK K
          try simp only [Act.put, List.setIfInBounds_toArray, List.set_cons_zero, List.set_cons_succ]
          refine anyR_ready (rs := [8]) (by kernel_rfl) (by simp) ?_
          refine ReadyR.cons (o := { dst := some 70, op := Go.Op.call { callee := Go.Callee.builtin Go.Builtin.append, args := #[Go.Operand.tmp 66, Go.Operand.tmp 69], argTypes := #[38, 38] }, type := 38, pos := "parse.go:107", after := #[{ on := 4, ground := Go.Ground.data }, { on := 7, ground := Go.Ground.data }], guard := none }) rfl (fun K hK => ?_) ReadyR.nil
          refine step_ev (W := W6) rfl (.tmp 66) (.tmp 69) rfl p (u := .slice none 0 0) (q := 0) (kc := ([] : List Ev).flatMap evCells) (cs := [.int .u8 4, .int .u8 0, .int .u8 t.f0, .string t.f1, .int .i64 t.f2.f0, .int .i64 t.f2.f1, .int .i64 t.f2.f2, .int .i64 t.f3]) rfl rfl HP6.out.evs rfl (evCells_one (noteE t)) (Nat.le_of_lt (blk_lt HP6.out.box)) (by decide) ?_
          intro G9 C9 w6 ho hg hat
          obtain ⟨⟨cur6, hcur, hfit⟩, hnx⟩ := ev_next (e := noteE t) HP6.out ho hg hat
          have hpe : ((.slice none 0 0 : Value)).ownBlock ≠ some p := fun e => by
            obtain ⟨cs, hc⟩ := own_typed HP6.out.evs p e
            rw [HP6.out.box] at hc; exact absurd (cells_ty hc) (by decide)
          have hpt : some w.heap.size ≠ ((.slice none 0 0 : Value)).ownBlock := fun e => by
            obtain ⟨cs, hc⟩ := own_typed HP6.out.evs w.heap.size e.symm
            rw [HT6.out] at hc; exact absurd (cells_ty hc) (by decide)
          have hc1 := World.cell?_of_block (a := ⟨p, 1, none⟩) (hg.block p (blk_lt HP6.out.box) (fun e => hpe e.symm))
          have hbT := hg.block w.heap.size (blk_lt HT6.out) hpt
          have hS7 : w6.cell? ⟨p, 1, none⟩ = some (.slice none 0 0) ∧ w6.cell? ⟨w.heap.size, 0, none⟩ = some (.int .u8 t.f0) ∧ w6.cell? ⟨w.heap.size, 1, none⟩ = some (.string t.f1) ∧ w6.cell? ⟨w.heap.size, 2, none⟩ = some (.int .i64 t.f2.f0) ∧ w6.cell? ⟨w.heap.size, 3, none⟩ = some (.int .i64 t.f2.f1) ∧ w6.cell? ⟨w.heap.size, 4, none⟩ = some (.int .i64 t.f2.f2) ∧ w6.cell? ⟨w.heap.size, 5, none⟩ = some (.int .i64 t.f3) := ⟨hc1.trans HS6.out.1, (World.cell?_of_block hbT).trans HS6.out.2.1, (World.cell?_of_block hbT).trans HS6.out.2.2.1, (World.cell?_of_block hbT).trans HS6.out.2.2.2.1, (World.cell?_of_block hbT).trans HS6.out.2.2.2.2.1, (World.cell?_of_block hbT).trans HS6.out.2.2.2.2.2.1, (World.cell?_of_block hbT).trans HS6.out.2.2.2.2.2.2⟩
          have HS7 := Lib.hid hS7
          have HCU := Lib.hid (And.intro hcur hfit)
          have HNX := Lib.hid hnx
          refine hK.out _ _ (fun _ => hS7) ?_
          clear hK K ho hg hat hpe hpt hc1 hbT hS7 hcur hfit hnx
          try simp only [Act.put, List.setIfInBounds_toArray, List.set_cons_zero, List.set_cons_succ]
          refine anyR_ready (rs := [9]) (by kernel_rfl) (by simp) ?_
          refine ReadyR.cons (o := { dst := some 71, op := Go.Op.nilCheck (Go.Operand.tmp 62), type := 0, pos := "parse.go:107", after := #[{ on := 0, ground := Go.Ground.data }, { on := 0, ground := Go.Ground.phase }, { on := 1, ground := Go.Ground.phase }, { on := 2, ground := Go.Ground.phase }, { on := 3, ground := Go.Ground.phase }, { on := 4, ground := Go.Ground.phase }, { on := 5, ground := Go.Ground.phase }, { on := 6, ground := Go.Ground.phase }, { on := 7, ground := Go.Ground.phase }, { on := 8, ground := Go.Ground.phase }], guard := none }) rfl (fun K hK => ?_) ReadyR.nil
          go_simp
          refine hK.out _ _ (fun _ => HS7.out) ?_
          clear hK K
          try simp only [Act.put, List.setIfInBounds_toArray, List.set_cons_zero, List.set_cons_succ]
          refine anyR_ready (rs := [10]) (by kernel_rfl) (by simp) ?_
          refine ReadyR.cons (o := { dst := some 72, op := Go.Op.fieldAddr 67 (Go.Operand.tmp 71) 1, type := 0, pos := "parse.go:107", after := #[{ on := 9, ground := Go.Ground.data }, { on := 0, ground := Go.Ground.phase }, { on := 1, ground := Go.Ground.phase }, { on := 2, ground := Go.Ground.phase }, { on := 3, ground := Go.Ground.phase }, { on := 4, ground := Go.Ground.phase }, { on := 5, ground := Go.Ground.phase }, { on := 6, ground := Go.Ground.phase }, { on := 7, ground := Go.Ground.phase }, { on := 8, ground := Go.Ground.phase }], guard := none }) rfl (fun K hK => ?_) ReadyR.nil
          go_simp
          refine hK.out _ _ (fun _ => HS7.out) ?_
          clear hK K
          try simp only [Act.put, List.setIfInBounds_toArray, List.set_cons_zero, List.set_cons_succ]
          refine anyR_ready (rs := [11]) (by kernel_rfl) (by simp) ?_
          refine ReadyR.cons (o := { dst := none, op := Go.Op.store 38 (Go.Operand.tmp 72) (Go.Operand.tmp 70), type := 0, pos := "parse.go:107", after := #[{ on := 10, ground := Go.Ground.data }, { on := 8, ground := Go.Ground.data }, { on := 8, ground := Go.Ground.chain }, { on := 0, ground := Go.Ground.phase }, { on := 1, ground := Go.Ground.phase }, { on := 2, ground := Go.Ground.phase }, { on := 3, ground := Go.Ground.phase }, { on := 4, ground := Go.Ground.phase }, { on := 5, ground := Go.Ground.phase }, { on := 6, ground := Go.Ground.phase }, { on := 7, ground := Go.Ground.phase }, { on := 8, ground := Go.Ground.phase }], guard := none }) rfl (fun K hK => ?_) ReadyR.nil
          refine step_store rfl rfl 38 (.tmp 72) (.tmp 70) rfl (g := p) (off := 1) (.slice (some ⟨G9, 0, none⟩) (0 + 1) C9) [.slice (some ⟨G9, 0, none⟩) (0 + 1) C9] rfl rfl rfl (by kernel_rfl) (fun v hv => by rw [List.mem_singleton.1 hv]; rfl) HCU.out.1 HCU.out.2 ?_
          have HN7 := Lib.hid (HNX.out _ rfl)
          refine hK.out _ _ (fun h => by cases h) ?_
          clear hK K HNX HCU HS7
          generalize w6.setCells p 1 [.slice (some ⟨G9, 0, none⟩) (0 + 1) C9] = V7 at HN7 ⊢
          try simp only [Act.put, List.setIfInBounds_toArray, List.set_cons_zero, List.set_cons_succ]
          refine anyR_done (by kernel_rfl) ?_ _
          have HP7 : Hid (PAt V7 p todo ([] ++ [noteE t]) d true 0 false vt (.slice (some ⟨G9, 0, none⟩) (0 + 1) C9)) := Lib.hid HN7.out.1
          have HS7 := Lib.hid (HS1.out.trans ((PStep.below HB6.out).trans HN7.out.2))
          clear q0 q1 q2 q3 q4 q5 c0 c1 c2 c3 c4 c5 HN7
          obtain ⟨q0, q1, q2, q3, q4, q5⟩ := HP7.out.cell
          obtain ⟨c0, c1, c2, c3, c4, c5⟩ := six_cells (HS7.out.keep HP0.out HT0.out (by decide) (by decide) (by decide))
          go_wp2_with (((with_reducible refine gate_ (.store 4 (.tmp 94) (.const (.bool true))) rfl ?_); refine wl_cells rfl rfl _ _ _ rfl (g := p) (off := 3) (.bool true) [.bool true] rfl rfl rfl (by kernel_rfl) (fun v hv => by rw [List.mem_singleton.1 hv]; rfl) HP7.out.box (by simp) ?_; intro V8 hV; obtain ⟨hA, hS⟩ := HP7.out.upd 3 (.bool true) (by decide) (s' := todo) (es' := ([] ++ [noteE t])) (d' := d) (b' := true) (wr' := 0) (cl' := false) (vt' := vt) (ve' := .slice (some ⟨G9, 0, none⟩) (0 + 1) C9) rfl HP7.out.todo HP7.out.evs (fun _ h => h) (fun _ h => h); rw [← hV] at hA hS; have HP8 := Lib.hid hA; have HS8 := Lib.hid (HS7.out.trans hS); clear q0 q1 q2 q3 q4 q5 c0 c1 c2 c3 c4 c5 hV; obtain ⟨q0, q1, q2, q3, q4, q5⟩ := hA.cell; obtain ⟨c0, c1, c2, c3, c4, c5⟩ := six_cells (HS8.out.keep HP0.out HT0.out (by decide) (by decide) (by decide)); clear hA hS))
          go_ret2
          unfold PutPost
          rw [HPU.out]
          exact ⟨_, _, _, _, rfl, HP8.out, HS0.out.trans HS8.out, HP8.out.evs, .inl rfl⟩
        | false =>
          cases k8 with
          | true =>
            have hn : isNote t = true := by unfold isNote; rw [hk7, hk8]; rfl
            have hput : put ⟨todo, d, true, 0, false⟩ t = ([] ++ [noteE t], 0, ⟨todo, d, true, 0, false⟩) := by unfold put preE preD; simp [hn]
            have HPU := Lib.hid hput
            clear hput hn
            go_upto_region 13 with (first
              | ((with_reducible refine gate_ (.store 38 (.tmp 31) (.const (.slice none 0 0))) rfl ?_); refine wl_cells rfl rfl _ _ _ rfl (g := p) (off := 1) (.slice none 0 0) [.slice none 0 0] rfl rfl rfl (by kernel_rfl) (fun v hv => by rw [List.mem_singleton.1 hv]; rfl) HP0.out.box (by simp) ?_; intro V1 hV; obtain ⟨hA, hS⟩ := HP0.out.upd 1 (.slice none 0 0) (by decide) (s' := todo) (es' := []) (d' := d) (b' := true) (wr' := 0) (cl' := false) (vt' := vt) (ve' := .slice none 0 0) rfl HP0.out.todo (nil_row _ _ _ _) (fun _ h => h) (fun _ h => by cases h); rw [← hV] at hA hS; have HP1 := Lib.hid hA; have HS1 := Lib.hid (HSR.out.trans hS); clear q0 q1 q2 q3 q4 q5 c0 c1 c2 c3 c4 c5 hV; obtain ⟨q0, q1, q2, q3, q4, q5⟩ := hA.cell; obtain ⟨c0, c1, c2, c3, c4, c5⟩ := six_cells (HS1.out.keep HP0.out HT0.out (by decide) (by decide) (by decide)); clear hA hS))
            obtain ⟨W6, hW6⟩ : ∃ V, V1.drew = V := ⟨_, rfl⟩
            have hb6 : Below V1.heap.size V1 W6 := by rw [← hW6]; exact (Below.refl _ V1).drew
            have hS6 : ∀ V, Below V1.heap.size V1 V → V.cell? ⟨p, 1, none⟩ = some (.slice none 0 0) ∧ V.cell? ⟨w.heap.size, 0, none⟩ = some (.int .u8 t.f0) ∧ V.cell? ⟨w.heap.size, 1, none⟩ = some (.string t.f1) ∧ V.cell? ⟨w.heap.size, 2, none⟩ = some (.int .i64 t.f2.f0) ∧ V.cell? ⟨w.heap.size, 3, none⟩ = some (.int .i64 t.f2.f1) ∧ V.cell? ⟨w.heap.size, 4, none⟩ = some (.int .i64 t.f2.f2) ∧ V.cell? ⟨w.heap.size, 5, none⟩ = some (.int .i64 t.f3) := fun V hV => ⟨pw_cell_below hV q1, pw_cell_below hV c0, pw_cell_below hV c1, pw_cell_below hV c2, pw_cell_below hV c3, pw_cell_below hV c4, pw_cell_below hV c5⟩
            have HSA := Lib.hid hS6
            have HS6 := Lib.hid (hS6 W6 hb6)
            have HB6 := Lib.hid hb6
            have HW6 := Lib.hid hW6
            have HP6 := Lib.hid (HP1.out.below hb6)
            have HT6 := Lib.hid ((HS1.out.trans (PStep.below hb6)).keep HP0.out HT0.out (by decide) (by decide) (by decide))
            clear hS6 hb6 hW6
            refine wp_region_R (fun w' => w'.cell? ⟨p, 1, none⟩ = some (.slice none 0 0) ∧ w'.cell? ⟨w.heap.size, 0, none⟩ = some (.int .u8 t.f0) ∧ w'.cell? ⟨w.heap.size, 1, none⟩ = some (.string t.f1) ∧ w'.cell? ⟨w.heap.size, 2, none⟩ = some (.int .i64 t.f2.f0) ∧ w'.cell? ⟨w.heap.size, 3, none⟩ = some (.int .i64 t.f2.f1) ∧ w'.cell? ⟨w.heap.size, 4, none⟩ = some (.int .i64 t.f2.f2) ∧ w'.cell? ⟨w.heap.size, 5, none⟩ = some (.int .i64 t.f3)) (fun j => !(Nat.beq j 11)) (by kernel_rfl) ?_
            rw [HW6.out]
            refine anyR_take (i := 0) (oi := { dst := some 62, op := Go.Op.move (Go.Operand.tmp 0), type := 24, pos := "parse.go:107", after := #[], guard := none }) (v := ?_) rfl (by kernel_rfl) (fun _ _ _ h => h) (Or.inl ⟨by rfl, ?_⟩) HS6.out ?_
            rotate_left
            · intro w9 hSw; (try dsimp only at hSw); go_simp; try (with_reducible rfl)
            try simp only [Act.put, List.setIfInBounds_toArray, List.set_cons_zero, List.set_cons_succ]
            refine anyR_take (i := 1) (oi := { dst := some 63, op := Go.Op.move (Go.Operand.tmp 0), type := 24, pos := "parse.go:107", after := #[], guard := none }) (v := ?_) rfl (by kernel_rfl) (fun _ _ _ h => h) (Or.inl ⟨by rfl, ?_⟩) HS6.out ?_
            rotate_left
            · intro w9 hSw; (try dsimp only at hSw); go_simp; try (with_reducible rfl)
            try simp only [Act.put, List.setIfInBounds_toArray, List.set_cons_zero, List.set_cons_succ]
            refine anyR_take (i := 2) (oi := { dst := some 64, op := Go.Op.nilCheck (Go.Operand.tmp 63), type := 0, pos := "parse.go:107", after := #[{ on := 1, ground := Go.Ground.data }], guard := none }) (v := ?_) rfl (by kernel_rfl) (fun _ _ _ h => h) (Or.inl ⟨by rfl, ?_⟩) HS6.out ?_
            rotate_left
            · intro w9 hSw; (try dsimp only at hSw); go_simp; try (with_reducible rfl)
            try simp only [Act.put, List.setIfInBounds_toArray, List.set_cons_zero, List.set_cons_succ]
            refine anyR_take (i := 3) (oi := { dst := some 65, op := Go.Op.fieldAddr 67 (Go.Operand.tmp 64) 1, type := 0, pos := "parse.go:107", after := #[{ on := 2, ground := Go.Ground.data }], guard := none }) (v := ?_) rfl (by kernel_rfl) (fun _ _ _ h => h) (Or.inl ⟨by rfl, ?_⟩) HS6.out ?_
            rotate_left
            · intro w9 hSw; (try dsimp only at hSw); go_simp; try (with_reducible rfl)
            try simp only [Act.put, List.setIfInBounds_toArray, List.set_cons_zero, List.set_cons_succ]
            refine anyR_take (i := 4) (oi := { dst := some 66, op := Go.Op.load 38 (Go.Operand.tmp 65), type := 38, pos := "parse.go:107", after := #[{ on := 3, ground := Go.Ground.data }], guard := none }) (v := ?_) rfl (by kernel_rfl) (fun _ _ _ h => h) (Or.inl ⟨by rfl, ?_⟩) HS6.out ?_
            rotate_left
            · intro w9 hSw; (try dsimp only at hSw); go_simp; try (with_reducible rfl)
            try simp only [Act.put, List.setIfInBounds_toArray, List.set_cons_zero, List.set_cons_succ]
            refine anyR_take (i := 5) (oi := { dst := some 67, op := Go.Op.load 35 (Go.Operand.tmp 3), type := 35, pos := "parse.go:107", after := #[], guard := none }) (v := ?_) rfl (by kernel_rfl) (fun _ _ _ h => h) (Or.inl ⟨by rfl, ?_⟩) HS6.out ?_
            rotate_left
            · intro w9 hSw; (try dsimp only at hSw); go_simp; try (with_reducible rfl)
            try simp only [Act.put, List.setIfInBounds_toArray, List.set_cons_zero, List.set_cons_succ]
            refine anyR_take (i := 6) (oi := { dst := some 68, op := Go.Op.build 46 #[(0, Go.Operand.const (Go.Value.int Go.IntKind.u8 4)), (2, Go.Operand.tmp 67)], type := 46, pos := "parse.go:107", after := #[{ on := 5, ground := Go.Ground.data }], guard := none }) (v := ?_) rfl (by kernel_rfl) (fun _ _ _ h => h) (Or.inl ⟨by rfl, ?_⟩) HS6.out ?_
            rotate_left
            · intro w9 hSw; (try dsimp only at hSw); go_simp; try (with_reducible rfl)
            try simp only [Act.put, List.setIfInBounds_toArray, List.set_cons_zero, List.set_cons_succ]
            refine anyR_ready (rs := [7]) (by kernel_rfl) (by simp) ?_
            refine ReadyR.cons (o := { dst := some 69, op := Go.Op.buildSlice 38 1 #[(0, Go.Operand.tmp 68)], type := 38, pos := "parse.go:107", after := #[{ on := 6, ground := Go.Ground.data }], guard := none }) rfl (fun K hK => ?_) ReadyR.nil
            go_simp
            refine hK.out _ _ (fun _ => HSA.out _ (HB6.out.alloc HB6.out.size _)) ?_
            clear hK K
            try simp only [Act.put, List.setIfInBounds_toArray, List.set_cons_zero, List.set_cons_succ]
            refine anyR_ready (rs := [8]) (by kernel_rfl) (by simp) ?_
            refine ReadyR.cons (o := { dst := some 70, op := Go.Op.call { callee := Go.Callee.builtin Go.Builtin.append, args := #[Go.Operand.tmp 66, Go.Operand.tmp 69], argTypes := #[38, 38] }, type := 38, pos := "parse.go:107", after := #[{ on := 4, ground := Go.Ground.data }, { on := 7, ground := Go.Ground.data }], guard := none }) rfl (fun K hK => ?_) ReadyR.nil
            refine step_ev (W := W6) rfl (.tmp 66) (.tmp 69) rfl p (u := .slice none 0 0) (q := 0) (kc := ([] : List Ev).flatMap evCells) (cs := [.int .u8 4, .int .u8 0, .int .u8 t.f0, .string t.f1, .int .i64 t.f2.f0, .int .i64 t.f2.f1, .int .i64 t.f2.f2, .int .i64 t.f3]) rfl rfl HP6.out.evs rfl (evCells_one (noteE t)) (Nat.le_of_lt (blk_lt HP6.out.box)) (by decide) ?_
            intro G9 C9 w6 ho hg hat
            obtain ⟨⟨cur6, hcur, hfit⟩, hnx⟩ := ev_next (e := noteE t) HP6.out ho hg hat
            have hpe : ((.slice none 0 0 : Value)).ownBlock ≠ some p := fun e => by
              obtain ⟨cs, hc⟩ := own_typed HP6.out.evs p e
              rw [HP6.out.box] at hc; exact absurd (cells_ty hc) (by decide)
            have hpt : some w.heap.size ≠ ((.slice none 0 0 : Value)).ownBlock := fun e => by
              obtain ⟨cs, hc⟩ := own_typed HP6.out.evs w.heap.size e.symm
              rw [HT6.out] at hc; exact absurd (cells_ty hc) (by decide)
            have hc1 := World.cell?_of_block (a := ⟨p, 1, none⟩) (hg.block p (blk_lt HP6.out.box) (fun e => hpe e.symm))
            have hbT := hg.block w.heap.size (blk_lt HT6.out) hpt
            have hS7 : w6.cell? ⟨p, 1, none⟩ = some (.slice none 0 0) ∧ w6.cell? ⟨w.heap.size, 0, none⟩ = some (.int .u8 t.f0) ∧ w6.cell? ⟨w.heap.size, 1, none⟩ = some (.string t.f1) ∧ w6.cell? ⟨w.heap.size, 2, none⟩ = some (.int .i64 t.f2.f0) ∧ w6.cell? ⟨w.heap.size, 3, none⟩ = some (.int .i64 t.f2.f1) ∧ w6.cell? ⟨w.heap.size, 4, none⟩ = some (.int .i64 t.f2.f2) ∧ w6.cell? ⟨w.heap.size, 5, none⟩ = some (.int .i64 t.f3) := ⟨hc1.trans HS6.out.1, (World.cell?_of_block hbT).trans HS6.out.2.1, (World.cell?_of_block hbT).trans HS6.out.2.2.1, (World.cell?_of_block hbT).trans HS6.out.2.2.2.1, (World.cell?_of_block hbT).trans HS6.out.2.2.2.2.1, (World.cell?_of_block hbT).trans HS6.out.2.2.2.2.2.1, (World.cell?_of_block hbT).trans HS6.out.2.2.2.2.2.2⟩
            have HS7 := Lib.hid hS7
            have HCU := Lib.hid (And.intro hcur hfit)
            have HNX := Lib.hid hnx
            refine hK.out _ _ (fun _ => hS7) ?_
            clear hK K ho hg hat hpe hpt hc1 hbT hS7 hcur hfit hnx
            try simp only [Act.put, List.setIfInBounds_toArray, List.set_cons_zero, List.set_cons_succ]
            refine anyR_ready (rs := [9]) (by kernel_rfl) (by simp) ?_
            refine ReadyR.cons (o := { dst := some 71, op := Go.Op.nilCheck (Go.Operand.tmp 62), type := 0, pos := "parse.go:107", after := #[{ on := 0, ground := Go.Ground.data }, { on := 0, ground := Go.Ground.phase }, { on := 1, ground := Go.Ground.phase }, { on := 2, ground := Go.Ground.phase }, { on := 3, ground := Go.Ground.phase }, { on := 4, ground := Go.Ground.phase }, { on := 5, ground := Go.Ground.phase }, { on := 6, ground := Go.Ground.phase }, { on := 7, ground := Go.Ground.phase }, { on := 8, ground := Go.Ground.phase }], guard := none }) rfl (fun K hK => ?_) ReadyR.nil
            go_simp
            refine hK.out _ _ (fun _ => HS7.out) ?_
            clear hK K
            try simp only [Act.put, List.setIfInBounds_toArray, List.set_cons_zero, List.set_cons_succ]
            refine anyR_ready (rs := [10]) (by kernel_rfl) (by simp) ?_
            refine ReadyR.cons (o := { dst := some 72, op := Go.Op.fieldAddr 67 (Go.Operand.tmp 71) 1, type := 0, pos := "parse.go:107", after := #[{ on := 9, ground := Go.Ground.data }, { on := 0, ground := Go.Ground.phase }, { on := 1, ground := Go.Ground.phase }, { on := 2, ground := Go.Ground.phase }, { on := 3, ground := Go.Ground.phase }, { on := 4, ground := Go.Ground.phase }, { on := 5, ground := Go.Ground.phase }, { on := 6, ground := Go.Ground.phase }, { on := 7, ground := Go.Ground.phase }, { on := 8, ground := Go.Ground.phase }], guard := none }) rfl (fun K hK => ?_) ReadyR.nil
            go_simp
            refine hK.out _ _ (fun _ => HS7.out) ?_
            clear hK K
            try simp only [Act.put, List.setIfInBounds_toArray, List.set_cons_zero, List.set_cons_succ]
            refine anyR_ready (rs := [11]) (by kernel_rfl) (by simp) ?_
            refine ReadyR.cons (o := { dst := none, op := Go.Op.store 38 (Go.Operand.tmp 72) (Go.Operand.tmp 70), type := 0, pos := "parse.go:107", after := #[{ on := 10, ground := Go.Ground.data }, { on := 8, ground := Go.Ground.data }, { on := 8, ground := Go.Ground.chain }, { on := 0, ground := Go.Ground.phase }, { on := 1, ground := Go.Ground.phase }, { on := 2, ground := Go.Ground.phase }, { on := 3, ground := Go.Ground.phase }, { on := 4, ground := Go.Ground.phase }, { on := 5, ground := Go.Ground.phase }, { on := 6, ground := Go.Ground.phase }, { on := 7, ground := Go.Ground.phase }, { on := 8, ground := Go.Ground.phase }], guard := none }) rfl (fun K hK => ?_) ReadyR.nil
            refine step_store rfl rfl 38 (.tmp 72) (.tmp 70) rfl (g := p) (off := 1) (.slice (some ⟨G9, 0, none⟩) (0 + 1) C9) [.slice (some ⟨G9, 0, none⟩) (0 + 1) C9] rfl rfl rfl (by kernel_rfl) (fun v hv => by rw [List.mem_singleton.1 hv]; rfl) HCU.out.1 HCU.out.2 ?_
            have HN7 := Lib.hid (HNX.out _ rfl)
            refine hK.out _ _ (fun h => by cases h) ?_
            clear hK K HNX HCU HS7
            generalize w6.setCells p 1 [.slice (some ⟨G9, 0, none⟩) (0 + 1) C9] = V7 at HN7 ⊢
            try simp only [Act.put, List.setIfInBounds_toArray, List.set_cons_zero, List.set_cons_succ]
            refine anyR_done (by kernel_rfl) ?_ _
            have HP7 : Hid (PAt V7 p todo ([] ++ [noteE t]) d true 0 false vt (.slice (some ⟨G9, 0, none⟩) (0 + 1) C9)) := Lib.hid HN7.out.1
            have HS7 := Lib.hid (HS1.out.trans ((PStep.below HB6.out).trans HN7.out.2))
            clear q0 q1 q2 q3 q4 q5 c0 c1 c2 c3 c4 c5 HN7
            obtain ⟨q0, q1, q2, q3, q4, q5⟩ := HP7.out.cell
            obtain ⟨c0, c1, c2, c3, c4, c5⟩ := six_cells (HS7.out.keep HP0.out HT0.out (by decide) (by decide) (by decide))
            go_wp2_with (((with_reducible refine gate_ (.store 4 (.tmp 94) (.const (.bool true))) rfl ?_); refine wl_cells rfl rfl _ _ _ rfl (g := p) (off := 3) (.bool true) [.bool true] rfl rfl rfl (by kernel_rfl) (fun v hv => by rw [List.mem_singleton.1 hv]; rfl) HP7.out.box (by simp) ?_; intro V8 hV; obtain ⟨hA, hS⟩ := HP7.out.upd 3 (.bool true) (by decide) (s' := todo) (es' := ([] ++ [noteE t])) (d' := d) (b' := true) (wr' := 0) (cl' := false) (vt' := vt) (ve' := .slice (some ⟨G9, 0, none⟩) (0 + 1) C9) rfl HP7.out.todo HP7.out.evs (fun _ h => h) (fun _ h => h); rw [← hV] at hA hS; have HP8 := Lib.hid hA; have HS8 := Lib.hid (HS7.out.trans hS); clear q0 q1 q2 q3 q4 q5 c0 c1 c2 c3 c4 c5 hV; obtain ⟨q0, q1, q2, q3, q4, q5⟩ := hA.cell; obtain ⟨c0, c1, c2, c3, c4, c5⟩ := six_cells (HS8.out.keep HP0.out HT0.out (by decide) (by decide) (by decide)); clear hA hS))
            go_ret2
            unfold PutPost
            rw [HPU.out]
            exact ⟨_, _, _, _, rfl, HP8.out, HS0.out.trans HS8.out, HP8.out.evs, .inl rfl⟩
          | false =>
            obtain ⟨⟨te, ts⟩, htr⟩ : ∃ tr, token t todo d = tr := ⟨_, rfl⟩
            have HTR := Lib.hid htr
            clear htr
            by_cases hte : te = 0
            · subst hte
              have hn : isNote t = false := by unfold isNote; rw [hk7, hk8]; rfl
              have hput : put ⟨todo, d, true, 0, false⟩ t = ([] ++ ts.evs.map evOf ++ [leafE t], 0, ⟨ts.todo, ts.depth, true, 0, false⟩) := by unfold put preE preD; simp [hn, HTR.out]
              have HPU := Lib.hid hput
              clear hput hn
              go_wp2_with (first
                | ((with_reducible refine gate_ (.store 38 (.tmp 31) (.const (.slice none 0 0))) rfl ?_); refine wl_cells rfl rfl _ _ _ rfl (g := p) (off := 1) (.slice none 0 0) [.slice none 0 0] rfl rfl rfl (by kernel_rfl) (fun v hv => by rw [List.mem_singleton.1 hv]; rfl) HP0.out.box (by simp) ?_; intro V1 hV; obtain ⟨hA, hS⟩ := HP0.out.upd 1 (.slice none 0 0) (by decide) (s' := todo) (es' := []) (d' := d) (b' := true) (wr' := 0) (cl' := false) (vt' := vt) (ve' := .slice none 0 0) rfl HP0.out.todo (nil_row _ _ _ _) (fun _ h => h) (fun _ h => by cases h); rw [← hV] at hA hS; have HP1 := Lib.hid hA; have HS1 := Lib.hid (HSR.out.trans hS); clear q0 q1 q2 q3 q4 q5 c0 c1 c2 c3 c4 c5 hV; obtain ⟨q0, q1, q2, q3, q4, q5⟩ := hA.cell; obtain ⟨c0, c1, c2, c3, c4, c5⟩ := six_cells (HS1.out.keep HP0.out HT0.out (by decide) (by decide) (by decide)); clear hA hS)
                | (go_at_call 46; have htk := token_any p todo [] d true 0 false vt (.slice none 0 0) t V1 HP1.out (by have := HIN.out; dsimp only at this; omega) (by decide) (by have := HIN.out; dsimp only at this; omega) HIN.out.1; unfold TokPost at htk; rw [HTR.out] at htk; dsimp only at htk; rw [if_pos rfl] at htk; (with_reducible refine Calls.mono htk ?_); rintro e W5 ⟨rfl, vt5, ve5, hP5, hs5⟩; have HP5 := Lib.hid hP5; have HS5 := Lib.hid (HS1.out.trans hs5); clear q0 q1 q2 q3 q4 q5 c0 c1 c2 c3 c4 c5 htk hs5; obtain ⟨q0, q1, q2, q3, q4, q5⟩ := hP5.cell; obtain ⟨c0, c1, c2, c3, c4, c5⟩ := six_cells (HS5.out.keep HP0.out HT0.out (by decide) (by decide) (by decide)); clear hP5)
                | ((with_reducible refine gate_ (.store 39 (.tmp 78) (.tmp 76)) rfl ?_); refine wl_cells rfl rfl _ _ _ rfl (g := p) (off := 4) (.int .i64 0) [.int .i64 0] rfl rfl rfl (by kernel_rfl) (fun v hv => by rw [List.mem_singleton.1 hv]; rfl) HP5.out.box (by simp) ?_; intro V6 hV; obtain ⟨hA, hS⟩ := HP5.out.upd 4 (.int .i64 0) (by decide) (s' := ts.todo) (es' := ([] ++ ts.evs.map evOf ++ [leafE t])) (d' := ts.depth) (b' := true) (wr' := 0) (cl' := false) (vt' := vt5) (ve' := ve5) rfl HP5.out.todo HP5.out.evs (fun _ h => h) (fun _ h => h); rw [← hV] at hA hS; have HP6 := Lib.hid hA; have HS6 := Lib.hid (HS5.out.trans hS); clear q0 q1 q2 q3 q4 q5 c0 c1 c2 c3 c4 c5 hV; obtain ⟨q0, q1, q2, q3, q4, q5⟩ := hA.cell; obtain ⟨c0, c1, c2, c3, c4, c5⟩ := six_cells (HS6.out.keep HP0.out HT0.out (by decide) (by decide) (by decide)); clear hA hS)
                | ((with_reducible refine gate_ (.store 4 (.tmp 94) (.const (.bool true))) rfl ?_); refine wl_cells rfl rfl _ _ _ rfl (g := p) (off := 3) (.bool true) [.bool true] rfl rfl rfl (by kernel_rfl) (fun v hv => by rw [List.mem_singleton.1 hv]; rfl) HP6.out.box (by simp) ?_; intro V7 hV; obtain ⟨hA, hS⟩ := HP6.out.upd 3 (.bool true) (by decide) (s' := ts.todo) (es' := ([] ++ ts.evs.map evOf ++ [leafE t])) (d' := ts.depth) (b' := true) (wr' := 0) (cl' := false) (vt' := vt5) (ve' := ve5) rfl HP6.out.todo HP6.out.evs (fun _ h => h) (fun _ h => h); rw [← hV] at hA hS; have HP7 := Lib.hid hA; have HS7 := Lib.hid (HS6.out.trans hS); clear q0 q1 q2 q3 q4 q5 c0 c1 c2 c3 c4 c5 hV; obtain ⟨q0, q1, q2, q3, q4, q5⟩ := hA.cell; obtain ⟨c0, c1, c2, c3, c4, c5⟩ := six_cells (HS7.out.keep HP0.out HT0.out (by decide) (by decide) (by decide)); clear hA hS))
              go_ret2
              unfold PutPost
              rw [HPU.out]
              exact ⟨_, _, _, _, rfl, HP7.out, HS0.out.trans HS7.out, HP7.out.evs, .inl rfl⟩
            · skip
              have hn : isNote t = false := by unfold isNote; rw [hk7, hk8]; rfl
              have hput : put ⟨todo, d, true, 0, false⟩ t = ([], te, ⟨ts.todo, d, true, te, false⟩) := by unfold put preE preD; simp [hn, HTR.out, hte]
              have HPU := Lib.hid hput
              clear hput hn
              have HTE := Lib.hid hte
              have e9 : (te != 0) = true := by rw [bne_iff_ne]; exact hte
              clear hte
              go_upto_region 17 with (first
                | ((with_reducible refine gate_ (.store 38 (.tmp 31) (.const (.slice none 0 0))) rfl ?_); refine wl_cells rfl rfl _ _ _ rfl (g := p) (off := 1) (.slice none 0 0) [.slice none 0 0] rfl rfl rfl (by kernel_rfl) (fun v hv => by rw [List.mem_singleton.1 hv]; rfl) HP0.out.box (by simp) ?_; intro V1 hV; obtain ⟨hA, hS⟩ := HP0.out.upd 1 (.slice none 0 0) (by decide) (s' := todo) (es' := []) (d' := d) (b' := true) (wr' := 0) (cl' := false) (vt' := vt) (ve' := .slice none 0 0) rfl HP0.out.todo (nil_row _ _ _ _) (fun _ h => h) (fun _ h => by cases h); rw [← hV] at hA hS; have HP1 := Lib.hid hA; have HS1 := Lib.hid (HSR.out.trans hS); clear q0 q1 q2 q3 q4 q5 c0 c1 c2 c3 c4 c5 hV; obtain ⟨q0, q1, q2, q3, q4, q5⟩ := hA.cell; obtain ⟨c0, c1, c2, c3, c4, c5⟩ := six_cells (HS1.out.keep HP0.out HT0.out (by decide) (by decide) (by decide)); clear hA hS)
                | (go_at_call 46; have htk := token_any p todo [] d true 0 false vt (.slice none 0 0) t V1 HP1.out (by have := HIN.out; dsimp only at this; omega) (by decide) (by have := HIN.out; dsimp only at this; omega) HIN.out.1; unfold TokPost at htk; rw [HTR.out] at htk; dsimp only at htk; rw [if_neg HTE.out] at htk; (with_reducible refine Calls.mono htk ?_); rintro e W5 ⟨rfl, vt5, ve5, hP5, hs5⟩; have HP5 := Lib.hid hP5; have HS5 := Lib.hid (HS1.out.trans hs5); clear q0 q1 q2 q3 q4 q5 c0 c1 c2 c3 c4 c5 htk hs5; obtain ⟨q0, q1, q2, q3, q4, q5⟩ := hP5.cell; obtain ⟨c0, c1, c2, c3, c4, c5⟩ := six_cells (HS5.out.keep HP0.out HT0.out (by decide) (by decide) (by decide)); clear hP5)
                | ((with_reducible refine gate_ (.store 39 (.tmp 78) (.tmp 76)) rfl ?_); refine wl_cells rfl rfl _ _ _ rfl (g := p) (off := 4) (.int .i64 te) [.int .i64 te] rfl rfl rfl (by kernel_rfl) (fun v hv => by rw [List.mem_singleton.1 hv]; rfl) HP5.out.box (by simp) ?_; intro V6 hV; obtain ⟨hA, hS⟩ := HP5.out.upd 4 (.int .i64 te) (by decide) (s' := ts.todo) (es' := ([] ++ ts.evs.map evOf ++ [])) (d' := ts.depth) (b' := true) (wr' := te) (cl' := false) (vt' := vt5) (ve' := ve5) rfl HP5.out.todo HP5.out.evs (fun _ h => h) (fun _ h => h); rw [← hV] at hA hS; have HP6 := Lib.hid hA; have HS6 := Lib.hid (HS5.out.trans hS); clear q0 q1 q2 q3 q4 q5 c0 c1 c2 c3 c4 c5 hV; obtain ⟨q0, q1, q2, q3, q4, q5⟩ := hA.cell; obtain ⟨c0, c1, c2, c3, c4, c5⟩ := six_cells (HS6.out.keep HP0.out HT0.out (by decide) (by decide) (by decide)); clear hA hS)
                | ((with_reducible refine gate_ (.store 3 (.tmp 87) (.tmp 85)) rfl ?_); refine wl_cells rfl rfl _ _ _ rfl (g := p) (off := 2) (.int .i64 d) [.int .i64 d] rfl rfl rfl (by kernel_rfl) (fun v hv => by rw [List.mem_singleton.1 hv]; rfl) HP6.out.box (by simp) ?_; intro V7 hV; obtain ⟨hA, hS⟩ := HP6.out.upd 2 (.int .i64 d) (by decide) (s' := ts.todo) (es' := ([] ++ ts.evs.map evOf ++ [])) (d' := d) (b' := true) (wr' := te) (cl' := false) (vt' := vt5) (ve' := ve5) rfl HP6.out.todo HP6.out.evs (fun _ h => h) (fun _ h => h); rw [← hV] at hA hS; have HP7 := Lib.hid hA; have HS7 := Lib.hid (HS6.out.trans hS); clear q0 q1 q2 q3 q4 q5 c0 c1 c2 c3 c4 c5 hV; obtain ⟨q0, q1, q2, q3, q4, q5⟩ := hA.cell; obtain ⟨c0, c1, c2, c3, c4, c5⟩ := six_cells (HS7.out.keep HP0.out HT0.out (by decide) (by decide) (by decide)); clear hA hS))
              go_region
              go_wp2
              go_ret2
              unfold PutPost
              rw [HPU.out]
              exact ⟨_, _, _, _, rfl, HP7.out.below (below_drew _), HS0.out.trans (HS7.out.trans (PStep.below (below_drew _))), nil_row _ _ _ _, .inr rfl⟩
      | false =>
        have HSR := Lib.hid (PStep.refl p vt ve W0)
        have hwd : IntKind.i64.wrap (d + 1) = d + 1 := by rw [IntKind.wrap_i64]; have := HIN.out; dsimp only at this; omega
        cases k7 with
        | true =>
          have hn : isNote t = true := by unfold isNote; rw [hk7, hk8]; rfl
          have hput : put ⟨todo, d, false, 0, false⟩ t = ([evOf (1, 1)] ++ [noteE t], 0, ⟨todo, (d + 1), true, 0, false⟩) := by unfold put preE preD; simp [hn]
          have HPU := Lib.hid hput
          clear hput hn
          go_upto_region 13 with (first
            | ((with_reducible refine gate_ (.store 38 (.tmp 31) (.const (.slice none 0 0))) rfl ?_); refine wl_cells rfl rfl _ _ _ rfl (g := p) (off := 1) (.slice none 0 0) [.slice none 0 0] rfl rfl rfl (by kernel_rfl) (fun v hv => by rw [List.mem_singleton.1 hv]; rfl) HP0.out.box (by simp) ?_; intro V1 hV; obtain ⟨hA, hS⟩ := HP0.out.upd 1 (.slice none 0 0) (by decide) (s' := todo) (es' := []) (d' := d) (b' := false) (wr' := 0) (cl' := false) (vt' := vt) (ve' := .slice none 0 0) rfl HP0.out.todo (nil_row _ _ _ _) (fun _ h => h) (fun _ h => by cases h); rw [← hV] at hA hS; have HP1 := Lib.hid hA; have HS1 := Lib.hid (HSR.out.trans hS); clear q0 q1 q2 q3 q4 q5 c0 c1 c2 c3 c4 c5 hV; obtain ⟨q0, q1, q2, q3, q4, q5⟩ := hA.cell; obtain ⟨c0, c1, c2, c3, c4, c5⟩ := six_cells (HS1.out.keep HP0.out HT0.out (by decide) (by decide) (by decide)); clear hA hS)
            | ((with_reducible refine gate_dst (N := 44) rfl ?_); refine wl_ev rfl (.tmp 41) (.tmp 43) rfl p (u := .slice none 0 0) (q := 0) (kc := []) (cs := [.int .u8 1, .int .u8 1, .int .u8 0, .string ⟨#[]⟩, .int .i64 0, .int .i64 0, .int .i64 0, .int .i64 0]) rfl rfl (nil_row _ _ _ _) rfl (evCells_one (evOf (1, 1))) (Nat.le_of_lt (blk_lt HP1.out.box)) (by decide) ?_; intro G1 C1 w1 ho hg hat; obtain ⟨⟨cur, hcur, hfit⟩, hnx⟩ := ev_next (e := evOf (1, 1)) HP1.out ho hg hat; have HCU := Lib.hid (And.intro hcur hfit); have HNX := Lib.hid hnx; clear ho hg hat hcur hfit hnx)
            | ((with_reducible refine gate_ (.store 38 (.tmp 46) (.tmp 44)) rfl ?_); refine wl_cells rfl rfl _ _ _ rfl (g := p) (off := 1) (.slice (some ⟨G1, 0, none⟩) (0 + 1) C1) [.slice (some ⟨G1, 0, none⟩) (0 + 1) C1] rfl rfl rfl (by kernel_rfl) (fun v hv => by rw [List.mem_singleton.1 hv]; rfl) HCU.out.1 HCU.out.2 ?_; intro V2 hV; obtain ⟨hA, hS⟩ := HNX.out V2 hV; have HP2 : Hid (PAt V2 p todo [evOf (1, 1)] d false 0 false vt (.slice (some ⟨G1, 0, none⟩) (0 + 1) C1)) := Lib.hid hA; have HS2 := Lib.hid (HS1.out.trans hS); clear q0 q1 q2 q3 q4 q5 c0 c1 c2 c3 c4 c5 hV HNX HCU; obtain ⟨q0, q1, q2, q3, q4, q5⟩ := hA.cell; obtain ⟨c0, c1, c2, c3, c4, c5⟩ := six_cells (HS2.out.keep HP0.out HT0.out (by decide) (by decide) (by decide)); clear hA hS)
            | ((with_reducible refine gate_ (.store 3 (.tmp 53) (.tmp 51)) rfl ?_); refine wl_cells rfl rfl _ _ _ rfl (g := p) (off := 2) (.int .i64 (d + 1)) [.int .i64 (d + 1)] rfl rfl rfl (by kernel_rfl) (fun v hv => by rw [List.mem_singleton.1 hv]; rfl) HP2.out.box (by simp) ?_; intro V3 hV; obtain ⟨hA, hS⟩ := HP2.out.upd 2 (.int .i64 (d + 1)) (by decide) (s' := todo) (es' := [evOf (1, 1)]) (d' := (d + 1)) (b' := false) (wr' := 0) (cl' := false) (vt' := vt) (ve' := .slice (some ⟨G1, 0, none⟩) (0 + 1) C1) rfl HP2.out.todo HP2.out.evs (fun _ h => h) (fun _ h => h); rw [← hV] at hA hS; have HP3 := Lib.hid hA; have HS3 := Lib.hid (HS2.out.trans hS); clear q0 q1 q2 q3 q4 q5 c0 c1 c2 c3 c4 c5 hV; obtain ⟨q0, q1, q2, q3, q4, q5⟩ := hA.cell; obtain ⟨c0, c1, c2, c3, c4, c5⟩ := six_cells (HS3.out.keep HP0.out HT0.out (by decide) (by decide) (by decide)); clear hA hS))
          obtain ⟨W6, hW6⟩ : ∃ V, V3.drew = V := ⟨_, rfl⟩
          have hb6 : Below V3.heap.size V3 W6 := by rw [← hW6]; exact (Below.refl _ V3).drew
          have hS6 : ∀ V, Below V3.heap.size V3 V → V.cell? ⟨p, 1, none⟩ = some (.slice (some ⟨G1, 0, none⟩) (0 + 1) C1) ∧ V.cell? ⟨w.heap.size, 0, none⟩ = some (.int .u8 t.f0) ∧ V.cell? ⟨w.heap.size, 1, none⟩ = some (.string t.f1) ∧ V.cell? ⟨w.heap.size, 2, none⟩ = some (.int .i64 t.f2.f0) ∧ V.cell? ⟨w.heap.size, 3, none⟩ = some (.int .i64 t.f2.f1) ∧ V.cell? ⟨w.heap.size, 4, none⟩ = some (.int .i64 t.f2.f2) ∧ V.cell? ⟨w.heap.size, 5, none⟩ = some (.int .i64 t.f3) := fun V hV => ⟨pw_cell_below hV q1, pw_cell_below hV c0, pw_cell_below hV c1, pw_cell_below hV c2, pw_cell_below hV c3, pw_cell_below hV c4, pw_cell_below hV c5⟩
          have HSA := Lib.hid hS6
          have HS6 := Lib.hid (hS6 W6 hb6)
          have HB6 := Lib.hid hb6
          have HW6 := Lib.hid hW6
          have HP6 := Lib.hid (HP3.out.below hb6)
          have HT6 := Lib.hid ((HS3.out.trans (PStep.below hb6)).keep HP0.out HT0.out (by decide) (by decide) (by decide))
          clear hS6 hb6 hW6
          refine wp_region_R (fun w' => w'.cell? ⟨p, 1, none⟩ = some (.slice (some ⟨G1, 0, none⟩) (0 + 1) C1) ∧ w'.cell? ⟨w.heap.size, 0, none⟩ = some (.int .u8 t.f0) ∧ w'.cell? ⟨w.heap.size, 1, none⟩ = some (.string t.f1) ∧ w'.cell? ⟨w.heap.size, 2, none⟩ = some (.int .i64 t.f2.f0) ∧ w'.cell? ⟨w.heap.size, 3, none⟩ = some (.int .i64 t.f2.f1) ∧ w'.cell? ⟨w.heap.size, 4, none⟩ = some (.int .i64 t.f2.f2) ∧ w'.cell? ⟨w.heap.size, 5, none⟩ = some (.int .i64 t.f3)) (fun j => !(Nat.beq j 11)) (by kernel_rfl) ?_
          rw [HW6.out]
          refine anyR_take (i := 0) (oi := { dst := some 62, op := Go.Op.move (Go.Operand.tmp 0), type := 24, pos := "parse.go:107", after := #[], guard := none }) (v := ?_) rfl (by kernel_rfl) (fun _ _ _ h => h) (Or.inl ⟨by rfl, ?_⟩) HS6.out ?_
          rotate_left
          · intro w9 hSw; (try dsimp only at hSw); go_simp; try (with_reducible rfl)
          try simp only [Act.put, List.setIfInBounds_toArray, List.set_cons_zero, List.set_cons_succ]
          refine anyR_take (i := 1) (oi := { dst := some 63, op := Go.Op.move (Go.Operand.tmp 0), type := 24, pos := "parse.go:107", after := #[], guard := none }) (v := ?_) rfl (by kernel_rfl) (fun _ _ _ h => h) (Or.inl ⟨by rfl, ?_⟩) HS6.out ?_
          rotate_left
          · intro w9 hSw; (try dsimp only at hSw); go_simp; try (with_reducible rfl)
          try simp only [Act.put, List.setIfInBounds_toArray, List.set_cons_zero, List.set_cons_succ]
          refine anyR_take (i := 2) (oi := { dst := some 64, op := Go.Op.nilCheck (Go.Operand.tmp 63), type := 0, pos := "parse.go:107", after := #[{ on := 1, ground := Go.Ground.data }], guard := none }) (v := ?_) rfl (by kernel_rfl) (fun _ _ _ h => h) (Or.inl ⟨by rfl, ?_⟩) HS6.out ?_
          rotate_left
          · intro w9 hSw; (try dsimp only at hSw); go_simp; try (with_reducible rfl)
          try simp only [Act.put, List.setIfInBounds_toArray, List.set_cons_zero, List.set_cons_succ]
          refine anyR_take (i := 3) (oi := { dst := some 65, op := Go.Op.fieldAddr 67 (Go.Operand.tmp 64) 1, type := 0, pos := "parse.go:107", after := #[{ on := 2, ground := Go.Ground.data }], guard := none }) (v := ?_) rfl (by kernel_rfl) (fun _ _ _ h => h) (Or.inl ⟨by rfl, ?_⟩) HS6.out ?_
          rotate_left
          · intro w9 hSw; (try dsimp only at hSw); go_simp; try (with_reducible rfl)
          try simp only [Act.put, List.setIfInBounds_toArray, List.set_cons_zero, List.set_cons_succ]
          refine anyR_take (i := 4) (oi := { dst := some 66, op := Go.Op.load 38 (Go.Operand.tmp 65), type := 38, pos := "parse.go:107", after := #[{ on := 3, ground := Go.Ground.data }], guard := none }) (v := ?_) rfl (by kernel_rfl) (fun _ _ _ h => h) (Or.inl ⟨by rfl, ?_⟩) HS6.out ?_
          rotate_left
          · intro w9 hSw; (try dsimp only at hSw); go_simp; try (with_reducible rfl)
          try simp only [Act.put, List.setIfInBounds_toArray, List.set_cons_zero, List.set_cons_succ]
          refine anyR_take (i := 5) (oi := { dst := some 67, op := Go.Op.load 35 (Go.Operand.tmp 3), type := 35, pos := "parse.go:107", after := #[], guard := none }) (v := ?_) rfl (by kernel_rfl) (fun _ _ _ h => h) (Or.inl ⟨by rfl, ?_⟩) HS6.out ?_
          rotate_left
          · intro w9 hSw; (try dsimp only at hSw); go_simp; try (with_reducible rfl)
          try simp only [Act.put, List.setIfInBounds_toArray, List.set_cons_zero, List.set_cons_succ]
          refine anyR_take (i := 6) (oi := { dst := some 68, op := Go.Op.build 46 #[(0, Go.Operand.const (Go.Value.int Go.IntKind.u8 4)), (2, Go.Operand.tmp 67)], type := 46, pos := "parse.go:107", after := #[{ on := 5, ground := Go.Ground.data }], guard := none }) (v := ?_) rfl (by kernel_rfl) (fun _ _ _ h => h) (Or.inl ⟨by rfl, ?_⟩) HS6.out ?_
          rotate_left
          · intro w9 hSw; (try dsimp only at hSw); go_simp; try (with_reducible rfl)
          try simp only [Act.put, List.setIfInBounds_toArray, List.set_cons_zero, List.set_cons_succ]
          refine anyR_ready (rs := [7]) (by kernel_rfl) (by simp) ?_
          refine ReadyR.cons (o := { dst := some 69, op := Go.Op.buildSlice 38 1 #[(0, Go.Operand.tmp 68)], type := 38, pos := "parse.go:107", after := #[{ on := 6, ground := Go.Ground.data }], guard := none }) rfl (fun K hK => ?_) ReadyR.nil
          go_simp
          refine hK.out _ _ (fun _ => HSA.out _ (HB6.out.alloc HB6.out.size _)) ?_
          clear hK K
          try simp only [Act.put, List.setIfInBounds_toArray, List.set_cons_zero, List.set_cons_succ]
          refine anyR_ready (rs := [8]) (by kernel_rfl) (by simp) ?_
          refine ReadyR.cons (o := { dst := some 70, op := Go.Op.call { callee := Go.Callee.builtin Go.Builtin.append, args := #[Go.Operand.tmp 66, Go.Operand.tmp 69], argTypes := #[38, 38] }, type := 38, pos := "parse.go:107", after := #[{ on := 4, ground := Go.Ground.data }, { on := 7, ground := Go.Ground.data }], guard := none }) rfl (fun K hK => ?_) ReadyR.nil
          refine step_ev (W := W6) rfl (.tmp 66) (.tmp 69) rfl p (u := .slice (some ⟨G1, 0, none⟩) (0 + 1) C1) (q := 1) (kc := ([evOf (1, 1)] : List Ev).flatMap evCells) (cs := [.int .u8 4, .int .u8 0, .int .u8 t.f0, .string t.f1, .int .i64 t.f2.f0, .int .i64 t.f2.f1, .int .i64 t.f2.f2, .int .i64 t.f3]) rfl rfl HP6.out.evs rfl (evCells_one (noteE t)) (Nat.le_of_lt (blk_lt HP6.out.box)) (by decide) ?_
          intro G9 C9 w6 ho hg hat
          obtain ⟨⟨cur6, hcur, hfit⟩, hnx⟩ := ev_next (e := noteE t) HP6.out ho hg hat
          have hpe : ((.slice (some ⟨G1, 0, none⟩) (0 + 1) C1 : Value)).ownBlock ≠ some p := fun e => by
            obtain ⟨cs, hc⟩ := own_typed HP6.out.evs p e
            rw [HP6.out.box] at hc; exact absurd (cells_ty hc) (by decide)
          have hpt : some w.heap.size ≠ ((.slice (some ⟨G1, 0, none⟩) (0 + 1) C1 : Value)).ownBlock := fun e => by
            obtain ⟨cs, hc⟩ := own_typed HP6.out.evs w.heap.size e.symm
            rw [HT6.out] at hc; exact absurd (cells_ty hc) (by decide)
          have hc1 := World.cell?_of_block (a := ⟨p, 1, none⟩) (hg.block p (blk_lt HP6.out.box) (fun e => hpe e.symm))
          have hbT := hg.block w.heap.size (blk_lt HT6.out) hpt
          have hS7 : w6.cell? ⟨p, 1, none⟩ = some (.slice (some ⟨G1, 0, none⟩) (0 + 1) C1) ∧ w6.cell? ⟨w.heap.size, 0, none⟩ = some (.int .u8 t.f0) ∧ w6.cell? ⟨w.heap.size, 1, none⟩ = some (.string t.f1) ∧ w6.cell? ⟨w.heap.size, 2, none⟩ = some (.int .i64 t.f2.f0) ∧ w6.cell? ⟨w.heap.size, 3, none⟩ = some (.int .i64 t.f2.f1) ∧ w6.cell? ⟨w.heap.size, 4, none⟩ = some (.int .i64 t.f2.f2) ∧ w6.cell? ⟨w.heap.size, 5, none⟩ = some (.int .i64 t.f3) := ⟨hc1.trans HS6.out.1, (World.cell?_of_block hbT).trans HS6.out.2.1, (World.cell?_of_block hbT).trans HS6.out.2.2.1, (World.cell?_of_block hbT).trans HS6.out.2.2.2.1, (World.cell?_of_block hbT).trans HS6.out.2.2.2.2.1, (World.cell?_of_block hbT).trans HS6.out.2.2.2.2.2.1, (World.cell?_of_block hbT).trans HS6.out.2.2.2.2.2.2⟩
          have HS7 := Lib.hid hS7
          have HCU := Lib.hid (And.intro hcur hfit)
          have HNX := Lib.hid hnx
          refine hK.out _ _ (fun _ => hS7) ?_
          clear hK K ho hg hat hpe hpt hc1 hbT hS7 hcur hfit hnx
          try simp only [Act.put, List.setIfInBounds_toArray, List.set_cons_zero, List.set_cons_succ]
          refine anyR_ready (rs := [9]) (by kernel_rfl) (by simp) ?_
          refine ReadyR.cons (o := { dst := some 71, op := Go.Op.nilCheck (Go.Operand.tmp 62), type := 0, pos := "parse.go:107", after := #[{ on := 0, ground := Go.Ground.data }, { on := 0, ground := Go.Ground.phase }, { on := 1, ground := Go.Ground.phase }, { on := 2, ground := Go.Ground.phase }, { on := 3, ground := Go.Ground.phase }, { on := 4, ground := Go.Ground.phase }, { on := 5, ground := Go.Ground.phase }, { on := 6, ground := Go.Ground.phase }, { on := 7, ground := Go.Ground.phase }, { on := 8, ground := Go.Ground.phase }], guard := none }) rfl (fun K hK => ?_) ReadyR.nil
          go_simp
          refine hK.out _ _ (fun _ => HS7.out) ?_
          clear hK K
          try simp only [Act.put, List.setIfInBounds_toArray, List.set_cons_zero, List.set_cons_succ]
          refine anyR_ready (rs := [10]) (by kernel_rfl) (by simp) ?_
          refine ReadyR.cons (o := { dst := some 72, op := Go.Op.fieldAddr 67 (Go.Operand.tmp 71) 1, type := 0, pos := "parse.go:107", after := #[{ on := 9, ground := Go.Ground.data }, { on := 0, ground := Go.Ground.phase }, { on := 1, ground := Go.Ground.phase }, { on := 2, ground := Go.Ground.phase }, { on := 3, ground := Go.Ground.phase }, { on := 4, ground := Go.Ground.phase }, { on := 5, ground := Go.Ground.phase }, { on := 6, ground := Go.Ground.phase }, { on := 7, ground := Go.Ground.phase }, { on := 8, ground := Go.Ground.phase }], guard := none }) rfl (fun K hK => ?_) ReadyR.nil
          go_simp
          refine hK.out _ _ (fun _ => HS7.out) ?_
          clear hK K
          try simp only [Act.put, List.setIfInBounds_toArray, List.set_cons_zero, List.set_cons_succ]
          refine anyR_ready (rs := [11]) (by kernel_rfl) (by simp) ?_
          refine ReadyR.cons (o := { dst := none, op := Go.Op.store 38 (Go.Operand.tmp 72) (Go.Operand.tmp 70), type := 0, pos := "parse.go:107", after := #[{ on := 10, ground := Go.Ground.data }, { on := 8, ground := Go.Ground.data }, { on := 8, ground := Go.Ground.chain }, { on := 0, ground := Go.Ground.phase }, { on := 1, ground := Go.Ground.phase }, { on := 2, ground := Go.Ground.phase }, { on := 3, ground := Go.Ground.phase }, { on := 4, ground := Go.Ground.phase }, { on := 5, ground := Go.Ground.phase }, { on := 6, ground := Go.Ground.phase }, { on := 7, ground := Go.Ground.phase }, { on := 8, ground := Go.Ground.phase }], guard := none }) rfl (fun K hK => ?_) ReadyR.nil
          refine step_store rfl rfl 38 (.tmp 72) (.tmp 70) rfl (g := p) (off := 1) (.slice (some ⟨G9, 0, none⟩) (1 + 1) C9) [.slice (some ⟨G9, 0, none⟩) (1 + 1) C9] rfl rfl rfl (by kernel_rfl) (fun v hv => by rw [List.mem_singleton.1 hv]; rfl) HCU.out.1 HCU.out.2 ?_
          have HN7 := Lib.hid (HNX.out _ rfl)
          refine hK.out _ _ (fun h => by cases h) ?_
          clear hK K HNX HCU HS7
          generalize w6.setCells p 1 [.slice (some ⟨G9, 0, none⟩) (1 + 1) C9] = V7 at HN7 ⊢
          try simp only [Act.put, List.setIfInBounds_toArray, List.set_cons_zero, List.set_cons_succ]
          refine anyR_done (by kernel_rfl) ?_ _
          have HP7 : Hid (PAt V7 p todo ([evOf (1, 1)] ++ [noteE t]) (d + 1) false 0 false vt (.slice (some ⟨G9, 0, none⟩) (1 + 1) C9)) := Lib.hid HN7.out.1
          have HS7 := Lib.hid (HS3.out.trans ((PStep.below HB6.out).trans HN7.out.2))
          clear q0 q1 q2 q3 q4 q5 c0 c1 c2 c3 c4 c5 HN7
          obtain ⟨q0, q1, q2, q3, q4, q5⟩ := HP7.out.cell
          obtain ⟨c0, c1, c2, c3, c4, c5⟩ := six_cells (HS7.out.keep HP0.out HT0.out (by decide) (by decide) (by decide))
          go_wp2_with (((with_reducible refine gate_ (.store 4 (.tmp 94) (.const (.bool true))) rfl ?_); refine wl_cells rfl rfl _ _ _ rfl (g := p) (off := 3) (.bool true) [.bool true] rfl rfl rfl (by kernel_rfl) (fun v hv => by rw [List.mem_singleton.1 hv]; rfl) HP7.out.box (by simp) ?_; intro V8 hV; obtain ⟨hA, hS⟩ := HP7.out.upd 3 (.bool true) (by decide) (s' := todo) (es' := ([evOf (1, 1)] ++ [noteE t])) (d' := (d + 1)) (b' := true) (wr' := 0) (cl' := false) (vt' := vt) (ve' := .slice (some ⟨G9, 0, none⟩) (1 + 1) C9) rfl HP7.out.todo HP7.out.evs (fun _ h => h) (fun _ h => h); rw [← hV] at hA hS; have HP8 := Lib.hid hA; have HS8 := Lib.hid (HS7.out.trans hS); clear q0 q1 q2 q3 q4 q5 c0 c1 c2 c3 c4 c5 hV; obtain ⟨q0, q1, q2, q3, q4, q5⟩ := hA.cell; obtain ⟨c0, c1, c2, c3, c4, c5⟩ := six_cells (HS8.out.keep HP0.out HT0.out (by decide) (by decide) (by decide)); clear hA hS))
          go_ret2
          unfold PutPost
          rw [HPU.out]
          exact ⟨_, _, _, _, rfl, HP8.out, HS0.out.trans HS8.out, HP8.out.evs, .inl rfl⟩
        | false =>
          cases k8 with
          | true =>
            have hn : isNote t = true := by unfold isNote; rw [hk7, hk8]; rfl
            have hput : put ⟨todo, d, false, 0, false⟩ t = ([evOf (1, 1)] ++ [noteE t], 0, ⟨todo, (d + 1), true, 0, false⟩) := by unfold put preE preD; simp [hn]
            have HPU := Lib.hid hput
            clear hput hn
            go_upto_region 13 with (first
              | ((with_reducible refine gate_ (.store 38 (.tmp 31) (.const (.slice none 0 0))) rfl ?_); refine wl_cells rfl rfl _ _ _ rfl (g := p) (off := 1) (.slice none 0 0) [.slice none 0 0] rfl rfl rfl (by kernel_rfl) (fun v hv => by rw [List.mem_singleton.1 hv]; rfl) HP0.out.box (by simp) ?_; intro V1 hV; obtain ⟨hA, hS⟩ := HP0.out.upd 1 (.slice none 0 0) (by decide) (s' := todo) (es' := []) (d' := d) (b' := false) (wr' := 0) (cl' := false) (vt' := vt) (ve' := .slice none 0 0) rfl HP0.out.todo (nil_row _ _ _ _) (fun _ h => h) (fun _ h => by cases h); rw [← hV] at hA hS; have HP1 := Lib.hid hA; have HS1 := Lib.hid (HSR.out.trans hS); clear q0 q1 q2 q3 q4 q5 c0 c1 c2 c3 c4 c5 hV; obtain ⟨q0, q1, q2, q3, q4, q5⟩ := hA.cell; obtain ⟨c0, c1, c2, c3, c4, c5⟩ := six_cells (HS1.out.keep HP0.out HT0.out (by decide) (by decide) (by decide)); clear hA hS)
              | ((with_reducible refine gate_dst (N := 44) rfl ?_); refine wl_ev rfl (.tmp 41) (.tmp 43) rfl p (u := .slice none 0 0) (q := 0) (kc := []) (cs := [.int .u8 1, .int .u8 1, .int .u8 0, .string ⟨#[]⟩, .int .i64 0, .int .i64 0, .int .i64 0, .int .i64 0]) rfl rfl (nil_row _ _ _ _) rfl (evCells_one (evOf (1, 1))) (Nat.le_of_lt (blk_lt HP1.out.box)) (by decide) ?_; intro G1 C1 w1 ho hg hat; obtain ⟨⟨cur, hcur, hfit⟩, hnx⟩ := ev_next (e := evOf (1, 1)) HP1.out ho hg hat; have HCU := Lib.hid (And.intro hcur hfit); have HNX := Lib.hid hnx; clear ho hg hat hcur hfit hnx)
              | ((with_reducible refine gate_ (.store 38 (.tmp 46) (.tmp 44)) rfl ?_); refine wl_cells rfl rfl _ _ _ rfl (g := p) (off := 1) (.slice (some ⟨G1, 0, none⟩) (0 + 1) C1) [.slice (some ⟨G1, 0, none⟩) (0 + 1) C1] rfl rfl rfl (by kernel_rfl) (fun v hv => by rw [List.mem_singleton.1 hv]; rfl) HCU.out.1 HCU.out.2 ?_; intro V2 hV; obtain ⟨hA, hS⟩ := HNX.out V2 hV; have HP2 : Hid (PAt V2 p todo [evOf (1, 1)] d false 0 false vt (.slice (some ⟨G1, 0, none⟩) (0 + 1) C1)) := Lib.hid hA; have HS2 := Lib.hid (HS1.out.trans hS); clear q0 q1 q2 q3 q4 q5 c0 c1 c2 c3 c4 c5 hV HNX HCU; obtain ⟨q0, q1, q2, q3, q4, q5⟩ := hA.cell; obtain ⟨c0, c1, c2, c3, c4, c5⟩ := six_cells (HS2.out.keep HP0.out HT0.out (by decide) (by decide) (by decide)); clear hA hS)
              | ((with_reducible refine gate_ (.store 3 (.tmp 53) (.tmp 51)) rfl ?_); refine wl_cells rfl rfl _ _ _ rfl (g := p) (off := 2) (.int .i64 (d + 1)) [.int .i64 (d + 1)] rfl rfl rfl (by kernel_rfl) (fun v hv => by rw [List.mem_singleton.1 hv]; rfl) HP2.out.box (by simp) ?_; intro V3 hV; obtain ⟨hA, hS⟩ := HP2.out.upd 2 (.int .i64 (d + 1)) (by decide) (s' := todo) (es' := [evOf (1, 1)]) (d' := (d + 1)) (b' := false) (wr' := 0) (cl' := false) (vt' := vt) (ve' := .slice (some ⟨G1, 0, none⟩) (0 + 1) C1) rfl HP2.out.todo HP2.out.evs (fun _ h => h) (fun _ h => h); rw [← hV] at hA hS; have HP3 := Lib.hid hA; have HS3 := Lib.hid (HS2.out.trans hS); clear q0 q1 q2 q3 q4 q5 c0 c1 c2 c3 c4 c5 hV; obtain ⟨q0, q1, q2, q3, q4, q5⟩ := hA.cell; obtain ⟨c0, c1, c2, c3, c4, c5⟩ := six_cells (HS3.out.keep HP0.out HT0.out (by decide) (by decide) (by decide)); clear hA hS))
            obtain ⟨W6, hW6⟩ : ∃ V, V3.drew = V := ⟨_, rfl⟩
            have hb6 : Below V3.heap.size V3 W6 := by rw [← hW6]; exact (Below.refl _ V3).drew
            have hS6 : ∀ V, Below V3.heap.size V3 V → V.cell? ⟨p, 1, none⟩ = some (.slice (some ⟨G1, 0, none⟩) (0 + 1) C1) ∧ V.cell? ⟨w.heap.size, 0, none⟩ = some (.int .u8 t.f0) ∧ V.cell? ⟨w.heap.size, 1, none⟩ = some (.string t.f1) ∧ V.cell? ⟨w.heap.size, 2, none⟩ = some (.int .i64 t.f2.f0) ∧ V.cell? ⟨w.heap.size, 3, none⟩ = some (.int .i64 t.f2.f1) ∧ V.cell? ⟨w.heap.size, 4, none⟩ = some (.int .i64 t.f2.f2) ∧ V.cell? ⟨w.heap.size, 5, none⟩ = some (.int .i64 t.f3) := fun V hV => ⟨pw_cell_below hV q1, pw_cell_below hV c0, pw_cell_below hV c1, pw_cell_below hV c2, pw_cell_below hV c3, pw_cell_below hV c4, pw_cell_below hV c5⟩
            have HSA := Lib.hid hS6
            have HS6 := Lib.hid (hS6 W6 hb6)
            have HB6 := Lib.hid hb6
            have HW6 := Lib.hid hW6
            have HP6 := Lib.hid (HP3.out.below hb6)
            have HT6 := Lib.hid ((HS3.out.trans (PStep.below hb6)).keep HP0.out HT0.out (by decide) (by decide) (by decide))
            clear hS6 hb6 hW6
            refine wp_region_R (fun w' => w'.cell? ⟨p, 1, none⟩ = some (.slice (some ⟨G1, 0, none⟩) (0 + 1) C1) ∧ w'.cell? ⟨w.heap.size, 0, none⟩ = some (.int .u8 t.f0) ∧ w'.cell? ⟨w.heap.size, 1, none⟩ = some (.string t.f1) ∧ w'.cell? ⟨w.heap.size, 2, none⟩ = some (.int .i64 t.f2.f0) ∧ w'.cell? ⟨w.heap.size, 3, none⟩ = some (.int .i64 t.f2.f1) ∧ w'.cell? ⟨w.heap.size, 4, none⟩ = some (.int .i64 t.f2.f2) ∧ w'.cell? ⟨w.heap.size, 5, none⟩ = some (.int .i64 t.f3)) (fun j => !(Nat.beq j 11)) (by kernel_rfl) ?_
            rw [HW6.out]
            refine anyR_take (i := 0) (oi := { dst := some 62, op := Go.Op.move (Go.Operand.tmp 0), type := 24, pos := "parse.go:107", after := #[], guard := none }) (v := ?_) rfl (by kernel_rfl) (fun _ _ _ h => h) (Or.inl ⟨by rfl, ?_⟩) HS6.out ?_
            rotate_left
            · intro w9 hSw; (try dsimp only at hSw); go_simp; try (with_reducible rfl)
            try simp only [Act.put, List.setIfInBounds_toArray, List.set_cons_zero, List.set_cons_succ]
            refine anyR_take (i := 1) (oi := { dst := some 63, op := Go.Op.move (Go.Operand.tmp 0), type := 24, pos := "parse.go:107", after := #[], guard := none }) (v := ?_) rfl (by kernel_rfl) (fun _ _ _ h => h) (Or.inl ⟨by rfl, ?_⟩) HS6.out ?_
            rotate_left
            · intro w9 hSw; (try dsimp only at hSw); go_simp; try (with_reducible rfl)
            try simp only [Act.put, List.setIfInBounds_toArray, List.set_cons_zero, List.set_cons_succ]
            refine anyR_take (i := 2) (oi := { dst := some 64, op := Go.Op.nilCheck (Go.Operand.tmp 63), type := 0, pos := "parse.go:107", after := #[{ on := 1, ground := Go.Ground.data }], guard := none }) (v := ?_) rfl (by kernel_rfl) (fun _ _ _ h => h) (Or.inl ⟨by rfl, ?_⟩) HS6.out ?_
            rotate_left
            · intro w9 hSw; (try dsimp only at hSw); go_simp; try (with_reducible rfl)
            try simp only [Act.put, List.setIfInBounds_toArray, List.set_cons_zero, List.set_cons_succ]
            refine anyR_take (i := 3) (oi := { dst := some 65, op := Go.Op.fieldAddr 67 (Go.Operand.tmp 64) 1, type := 0, pos := "parse.go:107", after := #[{ on := 2, ground := Go.Ground.data }], guard := none }) (v := ?_) rfl (by kernel_rfl) (fun _ _ _ h => h) (Or.inl ⟨by rfl, ?_⟩) HS6.out ?_
            rotate_left
            · intro w9 hSw; (try dsimp only at hSw); go_simp; try (with_reducible rfl)
            try simp only [Act.put, List.setIfInBounds_toArray, List.set_cons_zero, List.set_cons_succ]
            refine anyR_take (i := 4) (oi := { dst := some 66, op := Go.Op.load 38 (Go.Operand.tmp 65), type := 38, pos := "parse.go:107", after := #[{ on := 3, ground := Go.Ground.data }], guard := none }) (v := ?_) rfl (by kernel_rfl) (fun _ _ _ h => h) (Or.inl ⟨by rfl, ?_⟩) HS6.out ?_
            rotate_left
            · intro w9 hSw; (try dsimp only at hSw); go_simp; try (with_reducible rfl)
            try simp only [Act.put, List.setIfInBounds_toArray, List.set_cons_zero, List.set_cons_succ]
            refine anyR_take (i := 5) (oi := { dst := some 67, op := Go.Op.load 35 (Go.Operand.tmp 3), type := 35, pos := "parse.go:107", after := #[], guard := none }) (v := ?_) rfl (by kernel_rfl) (fun _ _ _ h => h) (Or.inl ⟨by rfl, ?_⟩) HS6.out ?_
            rotate_left
            · intro w9 hSw; (try dsimp only at hSw); go_simp; try (with_reducible rfl)
            try simp only [Act.put, List.setIfInBounds_toArray, List.set_cons_zero, List.set_cons_succ]
            refine anyR_take (i := 6) (oi := { dst := some 68, op := Go.Op.build 46 #[(0, Go.Operand.const (Go.Value.int Go.IntKind.u8 4)), (2, Go.Operand.tmp 67)], type := 46, pos := "parse.go:107", after := #[{ on := 5, ground := Go.Ground.data }], guard := none }) (v := ?_) rfl (by kernel_rfl) (fun _ _ _ h => h) (Or.inl ⟨by rfl, ?_⟩) HS6.out ?_
            rotate_left
            · intro w9 hSw; (try dsimp only at hSw); go_simp; try (with_reducible rfl)
            try simp only [Act.put, List.setIfInBounds_toArray, List.set_cons_zero, List.set_cons_succ]
            refine anyR_ready (rs := [7]) (by kernel_rfl) (by simp) ?_
            refine ReadyR.cons (o := { dst := some 69, op := Go.Op.buildSlice 38 1 #[(0, Go.Operand.tmp 68)], type := 38, pos := "parse.go:107", after := #[{ on := 6, ground := Go.Ground.data }], guard := none }) rfl (fun K hK => ?_) ReadyR.nil
            go_simp
            refine hK.out _ _ (fun _ => HSA.out _ (HB6.out.alloc HB6.out.size _)) ?_
            clear hK K
            try simp only [Act.put, List.setIfInBounds_toArray, List.set_cons_zero, List.set_cons_succ]
            refine anyR_ready (rs := [8]) (by kernel_rfl) (by simp) ?_
            refine ReadyR.cons (o := { dst := some 70, op := Go.Op.call { callee := Go.Callee.builtin Go.Builtin.append, args := #[Go.Operand.tmp 66, Go.Operand.tmp 69], argTypes := #[38, 38] }, type := 38, pos := "parse.go:107", after := #[{ on := 4, ground := Go.Ground.data }, { on := 7, ground := Go.Ground.data }], guard := none }) rfl (fun K hK => ?_) ReadyR.nil
            refine step_ev (W := W6) rfl (.tmp 66) (.tmp 69) rfl p (u := .slice (some ⟨G1, 0, none⟩) (0 + 1) C1) (q := 1) (kc := ([evOf (1, 1)] : List Ev).flatMap evCells) (cs := [.int .u8 4, .int .u8 0, .int .u8 t.f0, .string t.f1, .int .i64 t.f2.f0, .int .i64 t.f2.f1, .int .i64 t.f2.f2, .int .i64 t.f3]) rfl rfl HP6.out.evs rfl (evCells_one (noteE t)) (Nat.le_of_lt (blk_lt HP6.out.box)) (by decide) ?_
            intro G9 C9 w6 ho hg hat
            obtain ⟨⟨cur6, hcur, hfit⟩, hnx⟩ := ev_next (e := noteE t) HP6.out ho hg hat
            have hpe : ((.slice (some ⟨G1, 0, none⟩) (0 + 1) C1 : Value)).ownBlock ≠ some p := fun e => by
              obtain ⟨cs, hc⟩ := own_typed HP6.out.evs p e
              rw [HP6.out.box] at hc; exact absurd (cells_ty hc) (by decide)
            have hpt : some w.heap.size ≠ ((.slice (some ⟨G1, 0, none⟩) (0 + 1) C1 : Value)).ownBlock := fun e => by
              obtain ⟨cs, hc⟩ := own_typed HP6.out.evs w.heap.size e.symm
              rw [HT6.out] at hc; exact absurd (cells_ty hc) (by decide)
            have hc1 := World.cell?_of_block (a := ⟨p, 1, none⟩) (hg.block p (blk_lt HP6.out.box) (fun e => hpe e.symm))
            have hbT := hg.block w.heap.size (blk_lt HT6.out) hpt
            have hS7 : w6.cell? ⟨p, 1, none⟩ = some (.slice (some ⟨G1, 0, none⟩) (0 + 1) C1) ∧ w6.cell? ⟨w.heap.size, 0, none⟩ = some (.int .u8 t.f0) ∧ w6.cell? ⟨w.heap.size, 1, none⟩ = some (.string t.f1) ∧ w6.cell? ⟨w.heap.size, 2, none⟩ = some (.int .i64 t.f2.f0) ∧ w6.cell? ⟨w.heap.size, 3, none⟩ = some (.int .i64 t.f2.f1) ∧ w6.cell? ⟨w.heap.size, 4, none⟩ = some (.int .i64 t.f2.f2) ∧ w6.cell? ⟨w.heap.size, 5, none⟩ = some (.int .i64 t.f3) := ⟨hc1.trans HS6.out.1, (World.cell?_of_block hbT).trans HS6.out.2.1, (World.cell?_of_block hbT).trans HS6.out.2.2.1, (World.cell?_of_block hbT).trans HS6.out.2.2.2.1, (World.cell?_of_block hbT).trans HS6.out.2.2.2.2.1, (World.cell?_of_block hbT).trans HS6.out.2.2.2.2.2.1, (World.cell?_of_block hbT).trans HS6.out.2.2.2.2.2.2⟩
            have HS7 := Lib.hid hS7
            have HCU := Lib.hid (And.intro hcur hfit)
            have HNX := Lib.hid hnx
            refine hK.out _ _ (fun _ => hS7) ?_
            clear hK K ho hg hat hpe hpt hc1 hbT hS7 hcur hfit hnx
            try simp only [Act.put, List.setIfInBounds_toArray, List.set_cons_zero, List.set_cons_succ]
            refine anyR_ready (rs := [9]) (by kernel_rfl) (by simp) ?_
            refine ReadyR.cons (o := { dst := some 71, op := Go.Op.nilCheck (Go.Operand.tmp 62), type := 0, pos := "parse.go:107", after := #[{ on := 0, ground := Go.Ground.data }, { on := 0, ground := Go.Ground.phase }, { on := 1, ground := Go.Ground.phase }, { on := 2, ground := Go.Ground.phase }, { on := 3, ground := Go.Ground.phase }, { on := 4, ground := Go.Ground.phase }, { on := 5, ground := Go.Ground.phase }, { on := 6, ground := Go.Ground.phase }, { on := 7, ground := Go.Ground.phase }, { on := 8, ground := Go.Ground.phase }], guard := none }) rfl (fun K hK => ?_) ReadyR.nil
            go_simp
            refine hK.out _ _ (fun _ => HS7.out) ?_
            clear hK K
            try simp only [Act.put, List.setIfInBounds_toArray, List.set_cons_zero, List.set_cons_succ]
            refine anyR_ready (rs := [10]) (by kernel_rfl) (by simp) ?_
            refine ReadyR.cons (o := { dst := some 72, op := Go.Op.fieldAddr 67 (Go.Operand.tmp 71) 1, type := 0, pos := "parse.go:107", after := #[{ on := 9, ground := Go.Ground.data }, { on := 0, ground := Go.Ground.phase }, { on := 1, ground := Go.Ground.phase }, { on := 2, ground := Go.Ground.phase }, { on := 3, ground := Go.Ground.phase }, { on := 4, ground := Go.Ground.phase }, { on := 5, ground := Go.Ground.phase }, { on := 6, ground := Go.Ground.phase }, { on := 7, ground := Go.Ground.phase }, { on := 8, ground := Go.Ground.phase }], guard := none }) rfl (fun K hK => ?_) ReadyR.nil
            go_simp
            refine hK.out _ _ (fun _ => HS7.out) ?_
            clear hK K
            try simp only [Act.put, List.setIfInBounds_toArray, List.set_cons_zero, List.set_cons_succ]
            refine anyR_ready (rs := [11]) (by kernel_rfl) (by simp) ?_
            refine ReadyR.cons (o := { dst := none, op := Go.Op.store 38 (Go.Operand.tmp 72) (Go.Operand.tmp 70), type := 0, pos := "parse.go:107", after := #[{ on := 10, ground := Go.Ground.data }, { on := 8, ground := Go.Ground.data }, { on := 8, ground := Go.Ground.chain }, { on := 0, ground := Go.Ground.phase }, { on := 1, ground := Go.Ground.phase }, { on := 2, ground := Go.Ground.phase }, { on := 3, ground := Go.Ground.phase }, { on := 4, ground := Go.Ground.phase }, { on := 5, ground := Go.Ground.phase }, { on := 6, ground := Go.Ground.phase }, { on := 7, ground := Go.Ground.phase }, { on := 8, ground := Go.Ground.phase }], guard := none }) rfl (fun K hK => ?_) ReadyR.nil
            refine step_store rfl rfl 38 (.tmp 72) (.tmp 70) rfl (g := p) (off := 1) (.slice (some ⟨G9, 0, none⟩) (1 + 1) C9) [.slice (some ⟨G9, 0, none⟩) (1 + 1) C9] rfl rfl rfl (by kernel_rfl) (fun v hv => by rw [List.mem_singleton.1 hv]; rfl) HCU.out.1 HCU.out.2 ?_
            have HN7 := Lib.hid (HNX.out _ rfl)
            refine hK.out _ _ (fun h => by cases h) ?_
            clear hK K HNX HCU HS7
            generalize w6.setCells p 1 [.slice (some ⟨G9, 0, none⟩) (1 + 1) C9] = V7 at HN7 ⊢
            try simp only [Act.put, List.setIfInBounds_toArray, List.set_cons_zero, List.set_cons_succ]
            refine anyR_done (by kernel_rfl) ?_ _
            have HP7 : Hid (PAt V7 p todo ([evOf (1, 1)] ++ [noteE t]) (d + 1) false 0 false vt (.slice (some ⟨G9, 0, none⟩) (1 + 1) C9)) := Lib.hid HN7.out.1
            have HS7 := Lib.hid (HS3.out.trans ((PStep.below HB6.out).trans HN7.out.2))
            clear q0 q1 q2 q3 q4 q5 c0 c1 c2 c3 c4 c5 HN7
            obtain ⟨q0, q1, q2, q3, q4, q5⟩ := HP7.out.cell
            obtain ⟨c0, c1, c2, c3, c4, c5⟩ := six_cells (HS7.out.keep HP0.out HT0.out (by decide) (by decide) (by decide))
            go_wp2_with (((with_reducible refine gate_ (.store 4 (.tmp 94) (.const (.bool true))) rfl ?_); refine wl_cells rfl rfl _ _ _ rfl (g := p) (off := 3) (.bool true) [.bool true] rfl rfl rfl (by kernel_rfl) (fun v hv => by rw [List.mem_singleton.1 hv]; rfl) HP7.out.box (by simp) ?_; intro V8 hV; obtain ⟨hA, hS⟩ := HP7.out.upd 3 (.bool true) (by decide) (s' := todo) (es' := ([evOf (1, 1)] ++ [noteE t])) (d' := (d + 1)) (b' := true) (wr' := 0) (cl' := false) (vt' := vt) (ve' := .slice (some ⟨G9, 0, none⟩) (1 + 1) C9) rfl HP7.out.todo HP7.out.evs (fun _ h => h) (fun _ h => h); rw [← hV] at hA hS; have HP8 := Lib.hid hA; have HS8 := Lib.hid (HS7.out.trans hS); clear q0 q1 q2 q3 q4 q5 c0 c1 c2 c3 c4 c5 hV; obtain ⟨q0, q1, q2, q3, q4, q5⟩ := hA.cell; obtain ⟨c0, c1, c2, c3, c4, c5⟩ := six_cells (HS8.out.keep HP0.out HT0.out (by decide) (by decide) (by decide)); clear hA hS))
            go_ret2
            unfold PutPost
            rw [HPU.out]
            exact ⟨_, _, _, _, rfl, HP8.out, HS0.out.trans HS8.out, HP8.out.evs, .inl rfl⟩
          | false =>
            obtain ⟨⟨te, ts⟩, htr⟩ : ∃ tr, token t todo (d + 1) = tr := ⟨_, rfl⟩
            have HTR := Lib.hid htr
            clear htr
            by_cases hte : te = 0
            · subst hte
              have hn : isNote t = false := by unfold isNote; rw [hk7, hk8]; rfl
              have hput : put ⟨todo, d, false, 0, false⟩ t = ([evOf (1, 1)] ++ ts.evs.map evOf ++ [leafE t], 0, ⟨ts.todo, ts.depth, true, 0, false⟩) := by unfold put preE preD; simp [hn, HTR.out]
              have HPU := Lib.hid hput
              clear hput hn
              go_wp2_with (first
                | ((with_reducible refine gate_ (.store 38 (.tmp 31) (.const (.slice none 0 0))) rfl ?_); refine wl_cells rfl rfl _ _ _ rfl (g := p) (off := 1) (.slice none 0 0) [.slice none 0 0] rfl rfl rfl (by kernel_rfl) (fun v hv => by rw [List.mem_singleton.1 hv]; rfl) HP0.out.box (by simp) ?_; intro V1 hV; obtain ⟨hA, hS⟩ := HP0.out.upd 1 (.slice none 0 0) (by decide) (s' := todo) (es' := []) (d' := d) (b' := false) (wr' := 0) (cl' := false) (vt' := vt) (ve' := .slice none 0 0) rfl HP0.out.todo (nil_row _ _ _ _) (fun _ h => h) (fun _ h => by cases h); rw [← hV] at hA hS; have HP1 := Lib.hid hA; have HS1 := Lib.hid (HSR.out.trans hS); clear q0 q1 q2 q3 q4 q5 c0 c1 c2 c3 c4 c5 hV; obtain ⟨q0, q1, q2, q3, q4, q5⟩ := hA.cell; obtain ⟨c0, c1, c2, c3, c4, c5⟩ := six_cells (HS1.out.keep HP0.out HT0.out (by decide) (by decide) (by decide)); clear hA hS)
                | ((with_reducible refine gate_dst (N := 44) rfl ?_); refine wl_ev rfl (.tmp 41) (.tmp 43) rfl p (u := .slice none 0 0) (q := 0) (kc := []) (cs := [.int .u8 1, .int .u8 1, .int .u8 0, .string ⟨#[]⟩, .int .i64 0, .int .i64 0, .int .i64 0, .int .i64 0]) rfl rfl (nil_row _ _ _ _) rfl (evCells_one (evOf (1, 1))) (Nat.le_of_lt (blk_lt HP1.out.box)) (by decide) ?_; intro G1 C1 w1 ho hg hat; obtain ⟨⟨cur, hcur, hfit⟩, hnx⟩ := ev_next (e := evOf (1, 1)) HP1.out ho hg hat; have HCU := Lib.hid (And.intro hcur hfit); have HNX := Lib.hid hnx; clear ho hg hat hcur hfit hnx)
                | ((with_reducible refine gate_ (.store 38 (.tmp 46) (.tmp 44)) rfl ?_); refine wl_cells rfl rfl _ _ _ rfl (g := p) (off := 1) (.slice (some ⟨G1, 0, none⟩) (0 + 1) C1) [.slice (some ⟨G1, 0, none⟩) (0 + 1) C1] rfl rfl rfl (by kernel_rfl) (fun v hv => by rw [List.mem_singleton.1 hv]; rfl) HCU.out.1 HCU.out.2 ?_; intro V2 hV; obtain ⟨hA, hS⟩ := HNX.out V2 hV; have HP2 : Hid (PAt V2 p todo [evOf (1, 1)] d false 0 false vt (.slice (some ⟨G1, 0, none⟩) (0 + 1) C1)) := Lib.hid hA; have HS2 := Lib.hid (HS1.out.trans hS); clear q0 q1 q2 q3 q4 q5 c0 c1 c2 c3 c4 c5 hV HNX HCU; obtain ⟨q0, q1, q2, q3, q4, q5⟩ := hA.cell; obtain ⟨c0, c1, c2, c3, c4, c5⟩ := six_cells (HS2.out.keep HP0.out HT0.out (by decide) (by decide) (by decide)); clear hA hS)
                | ((with_reducible refine gate_ (.store 3 (.tmp 53) (.tmp 51)) rfl ?_); refine wl_cells rfl rfl _ _ _ rfl (g := p) (off := 2) (.int .i64 (d + 1)) [.int .i64 (d + 1)] rfl rfl rfl (by kernel_rfl) (fun v hv => by rw [List.mem_singleton.1 hv]; rfl) HP2.out.box (by simp) ?_; intro V3 hV; obtain ⟨hA, hS⟩ := HP2.out.upd 2 (.int .i64 (d + 1)) (by decide) (s' := todo) (es' := [evOf (1, 1)]) (d' := (d + 1)) (b' := false) (wr' := 0) (cl' := false) (vt' := vt) (ve' := .slice (some ⟨G1, 0, none⟩) (0 + 1) C1) rfl HP2.out.todo HP2.out.evs (fun _ h => h) (fun _ h => h); rw [← hV] at hA hS; have HP3 := Lib.hid hA; have HS3 := Lib.hid (HS2.out.trans hS); clear q0 q1 q2 q3 q4 q5 c0 c1 c2 c3 c4 c5 hV; obtain ⟨q0, q1, q2, q3, q4, q5⟩ := hA.cell; obtain ⟨c0, c1, c2, c3, c4, c5⟩ := six_cells (HS3.out.keep HP0.out HT0.out (by decide) (by decide) (by decide)); clear hA hS)
                | (go_at_call 46; have htk := token_any p todo [evOf (1, 1)] (d + 1) false 0 false vt (.slice (some ⟨G1, 0, none⟩) (0 + 1) C1) t V3 HP3.out (by have := HIN.out; dsimp only at this; omega) (by decide) (by have := HIN.out; dsimp only at this; omega) HIN.out.1; unfold TokPost at htk; rw [HTR.out] at htk; dsimp only at htk; rw [if_pos rfl] at htk; (with_reducible refine Calls.mono htk ?_); rintro e W5 ⟨rfl, vt5, ve5, hP5, hs5⟩; have HP5 := Lib.hid hP5; have HS5 := Lib.hid (HS3.out.trans hs5); clear q0 q1 q2 q3 q4 q5 c0 c1 c2 c3 c4 c5 htk hs5; obtain ⟨q0, q1, q2, q3, q4, q5⟩ := hP5.cell; obtain ⟨c0, c1, c2, c3, c4, c5⟩ := six_cells (HS5.out.keep HP0.out HT0.out (by decide) (by decide) (by decide)); clear hP5)
                | ((with_reducible refine gate_ (.store 39 (.tmp 78) (.tmp 76)) rfl ?_); refine wl_cells rfl rfl _ _ _ rfl (g := p) (off := 4) (.int .i64 0) [.int .i64 0] rfl rfl rfl (by kernel_rfl) (fun v hv => by rw [List.mem_singleton.1 hv]; rfl) HP5.out.box (by simp) ?_; intro V6 hV; obtain ⟨hA, hS⟩ := HP5.out.upd 4 (.int .i64 0) (by decide) (s' := ts.todo) (es' := ([evOf (1, 1)] ++ ts.evs.map evOf ++ [leafE t])) (d' := ts.depth) (b' := false) (wr' := 0) (cl' := false) (vt' := vt5) (ve' := ve5) rfl HP5.out.todo HP5.out.evs (fun _ h => h) (fun _ h => h); rw [← hV] at hA hS; have HP6 := Lib.hid hA; have HS6 := Lib.hid (HS5.out.trans hS); clear q0 q1 q2 q3 q4 q5 c0 c1 c2 c3 c4 c5 hV; obtain ⟨q0, q1, q2, q3, q4, q5⟩ := hA.cell; obtain ⟨c0, c1, c2, c3, c4, c5⟩ := six_cells (HS6.out.keep HP0.out HT0.out (by decide) (by decide) (by decide)); clear hA hS)
                | ((with_reducible refine gate_ (.store 4 (.tmp 94) (.const (.bool true))) rfl ?_); refine wl_cells rfl rfl _ _ _ rfl (g := p) (off := 3) (.bool true) [.bool true] rfl rfl rfl (by kernel_rfl) (fun v hv => by rw [List.mem_singleton.1 hv]; rfl) HP6.out.box (by simp) ?_; intro V7 hV; obtain ⟨hA, hS⟩ := HP6.out.upd 3 (.bool true) (by decide) (s' := ts.todo) (es' := ([evOf (1, 1)] ++ ts.evs.map evOf ++ [leafE t])) (d' := ts.depth) (b' := true) (wr' := 0) (cl' := false) (vt' := vt5) (ve' := ve5) rfl HP6.out.todo HP6.out.evs (fun _ h => h) (fun _ h => h); rw [← hV] at hA hS; have HP7 := Lib.hid hA; have HS7 := Lib.hid (HS6.out.trans hS); clear q0 q1 q2 q3 q4 q5 c0 c1 c2 c3 c4 c5 hV; obtain ⟨q0, q1, q2, q3, q4, q5⟩ := hA.cell; obtain ⟨c0, c1, c2, c3, c4, c5⟩ := six_cells (HS7.out.keep HP0.out HT0.out (by decide) (by decide) (by decide)); clear hA hS))
              go_ret2
              unfold PutPost
              rw [HPU.out]
              exact ⟨_, _, _, _, rfl, HP7.out, HS0.out.trans HS7.out, HP7.out.evs, .inl rfl⟩
            · skip
              have hn : isNote t = false := by unfold isNote; rw [hk7, hk8]; rfl
              have hput : put ⟨todo, d, false, 0, false⟩ t = ([], te, ⟨ts.todo, d, false, te, false⟩) := by unfold put preE preD; simp [hn, HTR.out, hte]
              have HPU := Lib.hid hput
              clear hput hn
              have HTE := Lib.hid hte
              have e9 : (te != 0) = true := by rw [bne_iff_ne]; exact hte
              clear hte
              go_upto_region 17 with (first
                | ((with_reducible refine gate_ (.store 38 (.tmp 31) (.const (.slice none 0 0))) rfl ?_); refine wl_cells rfl rfl _ _ _ rfl (g := p) (off := 1) (.slice none 0 0) [.slice none 0 0] rfl rfl rfl (by kernel_rfl) (fun v hv => by rw [List.mem_singleton.1 hv]; rfl) HP0.out.box (by simp) ?_; intro V1 hV; obtain ⟨hA, hS⟩ := HP0.out.upd 1 (.slice none 0 0) (by decide) (s' := todo) (es' := []) (d' := d) (b' := false) (wr' := 0) (cl' := false) (vt' := vt) (ve' := .slice none 0 0) rfl HP0.out.todo (nil_row _ _ _ _) (fun _ h => h) (fun _ h => by cases h); rw [← hV] at hA hS; have HP1 := Lib.hid hA; have HS1 := Lib.hid (HSR.out.trans hS); clear q0 q1 q2 q3 q4 q5 c0 c1 c2 c3 c4 c5 hV; obtain ⟨q0, q1, q2, q3, q4, q5⟩ := hA.cell; obtain ⟨c0, c1, c2, c3, c4, c5⟩ := six_cells (HS1.out.keep HP0.out HT0.out (by decide) (by decide) (by decide)); clear hA hS)
                | ((with_reducible refine gate_dst (N := 44) rfl ?_); refine wl_ev rfl (.tmp 41) (.tmp 43) rfl p (u := .slice none 0 0) (q := 0) (kc := []) (cs := [.int .u8 1, .int .u8 1, .int .u8 0, .string ⟨#[]⟩, .int .i64 0, .int .i64 0, .int .i64 0, .int .i64 0]) rfl rfl (nil_row _ _ _ _) rfl (evCells_one (evOf (1, 1))) (Nat.le_of_lt (blk_lt HP1.out.box)) (by decide) ?_; intro G1 C1 w1 ho hg hat; obtain ⟨⟨cur, hcur, hfit⟩, hnx⟩ := ev_next (e := evOf (1, 1)) HP1.out ho hg hat; have HCU := Lib.hid (And.intro hcur hfit); have HNX := Lib.hid hnx; clear ho hg hat hcur hfit hnx)
                | ((with_reducible refine gate_ (.store 38 (.tmp 46) (.tmp 44)) rfl ?_); refine wl_cells rfl rfl _ _ _ rfl (g := p) (off := 1) (.slice (some ⟨G1, 0, none⟩) (0 + 1) C1) [.slice (some ⟨G1, 0, none⟩) (0 + 1) C1] rfl rfl rfl (by kernel_rfl) (fun v hv => by rw [List.mem_singleton.1 hv]; rfl) HCU.out.1 HCU.out.2 ?_; intro V2 hV; obtain ⟨hA, hS⟩ := HNX.out V2 hV; have HP2 : Hid (PAt V2 p todo [evOf (1, 1)] d false 0 false vt (.slice (some ⟨G1, 0, none⟩) (0 + 1) C1)) := Lib.hid hA; have HS2 := Lib.hid (HS1.out.trans hS); clear q0 q1 q2 q3 q4 q5 c0 c1 c2 c3 c4 c5 hV HNX HCU; obtain ⟨q0, q1, q2, q3, q4, q5⟩ := hA.cell; obtain ⟨c0, c1, c2, c3, c4, c5⟩ := six_cells (HS2.out.keep HP0.out HT0.out (by decide) (by decide) (by decide)); clear hA hS)
                | ((with_reducible refine gate_ (.store 3 (.tmp 53) (.tmp 51)) rfl ?_); refine wl_cells rfl rfl _ _ _ rfl (g := p) (off := 2) (.int .i64 (d + 1)) [.int .i64 (d + 1)] rfl rfl rfl (by kernel_rfl) (fun v hv => by rw [List.mem_singleton.1 hv]; rfl) HP2.out.box (by simp) ?_; intro V3 hV; obtain ⟨hA, hS⟩ := HP2.out.upd 2 (.int .i64 (d + 1)) (by decide) (s' := todo) (es' := [evOf (1, 1)]) (d' := (d + 1)) (b' := false) (wr' := 0) (cl' := false) (vt' := vt) (ve' := .slice (some ⟨G1, 0, none⟩) (0 + 1) C1) rfl HP2.out.todo HP2.out.evs (fun _ h => h) (fun _ h => h); rw [← hV] at hA hS; have HP3 := Lib.hid hA; have HS3 := Lib.hid (HS2.out.trans hS); clear q0 q1 q2 q3 q4 q5 c0 c1 c2 c3 c4 c5 hV; obtain ⟨q0, q1, q2, q3, q4, q5⟩ := hA.cell; obtain ⟨c0, c1, c2, c3, c4, c5⟩ := six_cells (HS3.out.keep HP0.out HT0.out (by decide) (by decide) (by decide)); clear hA hS)
                | (go_at_call 46; have htk := token_any p todo [evOf (1, 1)] (d + 1) false 0 false vt (.slice (some ⟨G1, 0, none⟩) (0 + 1) C1) t V3 HP3.out (by have := HIN.out; dsimp only at this; omega) (by decide) (by have := HIN.out; dsimp only at this; omega) HIN.out.1; unfold TokPost at htk; rw [HTR.out] at htk; dsimp only at htk; rw [if_neg HTE.out] at htk; (with_reducible refine Calls.mono htk ?_); rintro e W5 ⟨rfl, vt5, ve5, hP5, hs5⟩; have HP5 := Lib.hid hP5; have HS5 := Lib.hid (HS3.out.trans hs5); clear q0 q1 q2 q3 q4 q5 c0 c1 c2 c3 c4 c5 htk hs5; obtain ⟨q0, q1, q2, q3, q4, q5⟩ := hP5.cell; obtain ⟨c0, c1, c2, c3, c4, c5⟩ := six_cells (HS5.out.keep HP0.out HT0.out (by decide) (by decide) (by decide)); clear hP5)
                | ((with_reducible refine gate_ (.store 39 (.tmp 78) (.tmp 76)) rfl ?_); refine wl_cells rfl rfl _ _ _ rfl (g := p) (off := 4) (.int .i64 te) [.int .i64 te] rfl rfl rfl (by kernel_rfl) (fun v hv => by rw [List.mem_singleton.1 hv]; rfl) HP5.out.box (by simp) ?_; intro V6 hV; obtain ⟨hA, hS⟩ := HP5.out.upd 4 (.int .i64 te) (by decide) (s' := ts.todo) (es' := ([evOf (1, 1)] ++ ts.evs.map evOf ++ [])) (d' := ts.depth) (b' := false) (wr' := te) (cl' := false) (vt' := vt5) (ve' := ve5) rfl HP5.out.todo HP5.out.evs (fun _ h => h) (fun _ h => h); rw [← hV] at hA hS; have HP6 := Lib.hid hA; have HS6 := Lib.hid (HS5.out.trans hS); clear q0 q1 q2 q3 q4 q5 c0 c1 c2 c3 c4 c5 hV; obtain ⟨q0, q1, q2, q3, q4, q5⟩ := hA.cell; obtain ⟨c0, c1, c2, c3, c4, c5⟩ := six_cells (HS6.out.keep HP0.out HT0.out (by decide) (by decide) (by decide)); clear hA hS)
                | ((with_reducible refine gate_ (.store 3 (.tmp 87) (.tmp 85)) rfl ?_); refine wl_cells rfl rfl _ _ _ rfl (g := p) (off := 2) (.int .i64 d) [.int .i64 d] rfl rfl rfl (by kernel_rfl) (fun v hv => by rw [List.mem_singleton.1 hv]; rfl) HP6.out.box (by simp) ?_; intro V7 hV; obtain ⟨hA, hS⟩ := HP6.out.upd 2 (.int .i64 d) (by decide) (s' := ts.todo) (es' := ([evOf (1, 1)] ++ ts.evs.map evOf ++ [])) (d' := d) (b' := false) (wr' := te) (cl' := false) (vt' := vt5) (ve' := ve5) rfl HP6.out.todo HP6.out.evs (fun _ h => h) (fun _ h => h); rw [← hV] at hA hS; have HP7 := Lib.hid hA; have HS7 := Lib.hid (HS6.out.trans hS); clear q0 q1 q2 q3 q4 q5 c0 c1 c2 c3 c4 c5 hV; obtain ⟨q0, q1, q2, q3, q4, q5⟩ := hA.cell; obtain ⟨c0, c1, c2, c3, c4, c5⟩ := six_cells (HS7.out.keep HP0.out HT0.out (by decide) (by decide) (by decide)); clear hA hS))
              go_region
              go_wp2
              go_ret2
              unfold PutPost
              rw [HPU.out]
              exact ⟨_, _, _, _, rfl, HP7.out.below (below_drew _), HS0.out.trans (HS7.out.trans (PStep.below (below_drew _))), nil_row _ _ _ _, .inr rfl⟩
    · have e0 : (wr != 0) = true := by rw [bne_iff_ne]; exact hwr
      have hput : put ⟨todo, d, b, wr, false⟩ t = ([], wr, ⟨todo, d, b, wr, false⟩) := by unfold put; simp [hwr]
      have HPU := Lib.hid hput
      clear hput
      go_upto_region 6 with (fail)
      go_region
      go_wp2
      go_ret2
      unfold PutPost
      rw [HPU.out]
      refine ⟨_, _, _, _, rfl, HP0.out.below (below_drew _), HS0.out.trans (PStep.below (below_drew _)), nil_row _ _ _ _, .inr rfl⟩
end Go.Proofs.Ytmjbpgnjgblnmaa
