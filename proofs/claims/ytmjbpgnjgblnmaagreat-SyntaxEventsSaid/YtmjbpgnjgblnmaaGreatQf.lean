/- What the claim stands on: part Qf. -/
import Derived.Test.YtmjbpgnjgblnmaaGreatQe
import Derived.Test.YtmjbpgnjgblnmaaGreatQc
import Derived.Deep.AppendLies
import Derived.Laws.OwnMore
import Derived.OwnWalk
import Derived.WalkSmall
set_option linter.unusedVariables false
set_option linter.unusedSimpArgs false
namespace Go.Proofs.YtmjbpgnjgblnmaaGreat
open Go.RowKit Go.Proofs.YtmjbpgnjgblnmaaGreatW.PrintWords Go.Proofs.YtmjbpgnjgblnmaaGreatW.PrintLast Go.Proofs.YtmjbpgnjgblnmaaGreatW.PrintMore
theorem six_cells {w : World} {g : Nat} {T : TypeId} {a b c d e f : Value} (h : w.heap[g]? = some (.cells #[a, b, c, d, e, f] T (0, 0))) :
  w.cell? ⟨g, 0, none⟩ = some a ∧ w.cell? ⟨g, 1, none⟩ = some b ∧ w.cell? ⟨g, 2, none⟩ = some c ∧ w.cell? ⟨g, 3, none⟩ = some d ∧ w.cell? ⟨g, 4, none⟩ = some e ∧ w.cell? ⟨g, 5, none⟩ = some f :=
 ⟨cell_of_row _ _ _ _ _ _ h, cell_of_row _ _ _ _ _ _ h, cell_of_row _ _ _ _ _ _ h, cell_of_row _ _ _ _ _ _ h, cell_of_row _ _ _ _ _ _ h, cell_of_row _ _ _ _ _ _ h⟩
theorem below_drew (w : World) : Below w.heap.size w w.drew := (Below.refl _ w).drew
structure PIn (w : World) (p : Nat) (P : Par) (es : List Ev) (vt ve : Value) : Prop where
 at_ : PAt w p P.todo es P.depth P.begun P.wrong P.closed vt ve
 ends : Ends P.todo
 bt : P.todo.length ≤ 2147483648
 bd1 : -2147483648 ≤ P.depth
 bd2 : P.depth ≤ 2147483648
def PutPost (p : Nat) (P : Par) (vt ve : Value) (t : Tk) (w : World) (e : Ending) (w' : World) : Prop :=
 ∃ v es' vt' ve', e = .returned (.tuple #[v, .int .i64 (put P t).2.1]) ∧ PAt w' p (put P t).2.2.todo es' (put P t).2.2.depth (put P t).2.2.begun (put P t).2.2.wrong (put P t).2.2.closed vt' ve' ∧ PStep p vt ve w vt' ve' w' ∧
  w'.ownsRow p 48 8 v (put P t).1.length ((put P t).1.flatMap evCells) ∧ (v = ve' ∨ v = .slice none 0 0)
theorem nil_row (w : World) (base : Nat) (e : TypeId) (size : Nat) : w.ownsRow base e size (.slice none 0 0) 0 [] := ⟨by simp, .inl ⟨rfl, rfl⟩⟩
set_option maxRecDepth 100000 in
set_option maxHeartbeats 8000000 in
theorem put_any (p : Nat) (P : Par) (es : List Ev) (vt ve : Value) (t : Tk) (w : World) (hP : PIn w p P es vt ve) :
  Calls Tryz.prog 11 #[.pointer (some ⟨p, 0, none⟩), .agg #[.int .u8 t.f0, .string t.f1, .int .i64 t.f2.f0, .int .i64 t.f2.f1, .int .i64 t.f2.f2, .int .i64 t.f3]] w (PutPost p P vt ve t w) := by
 obtain ⟨h1, h2, -⟩ := hP.at_.fresh (.cells #[.int .u8 t.f0, .string t.f1, .int .i64 t.f2.f0, .int .i64 t.f2.f1, .int .i64 t.f2.f2, .int .i64 t.f3] 28)
 obtain ⟨W0, hW0⟩ : ∃ V, w.alloc (.cells #[.int .u8 t.f0, .string t.f1, .int .i64 t.f2.f0, .int .i64 t.f2.f1, .int .i64 t.f2.f2, .int .i64 t.f3] 28) = V := ⟨_, rfl⟩
 have hT0 : W0.heap[w.heap.size]? = some (.cells #[.int .u8 t.f0, .string t.f1, .int .i64 t.f2.f0, .int .i64 t.f2.f1, .int .i64 t.f2.f2, .int .i64 t.f3] 28 (0, 0)) := by rw [← hW0]; exact World.alloc_heap_new _ _
 rw [hW0] at h1 h2
 have HW0 := Lib.hid hW0
 have HT0 := Lib.hid hT0
 have HP0 := Lib.hid h1
 have HS0 := Lib.hid h2
 have HIN := Lib.hid (And.intro hP.ends (And.intro hP.bt (And.intro hP.bd1 hP.bd2)))
 obtain ⟨c0, c1, c2, c3, c4, c5⟩ := six_cells hT0
 obtain ⟨q0, q1, q2, q3, q4, q5⟩ := h1.cell
 clear hP h1 h2 hT0 hW0
 obtain ⟨todo, d, b, wr, cl⟩ := P
 dsimp only at q0 q1 q2 q3 q4 q5
 go_enter Tryz.func11, Tryz.ntmps11
 go_upto_region 1 with (fail)
 rw [HW0.out]
 clear HW0
 cases cl with
 | true =>
  have hput : put ⟨todo, d, b, wr, true⟩ t = ([], 4, ⟨todo, d, b, wr, true⟩) := by unfold put; simp
  have HPU := Lib.hid hput
  clear hput
  go_wp2
  go_ret2
  unfold PutPost
  rw [HPU.out]
  refine ⟨_, _, _, _, rfl, HP0.out, HS0.out, nil_row _ _ _ _, .inr rfl⟩
 | false =>
  by_cases hwr : wr = 0
  ·subst hwr
   obtain ⟨k7, hk7⟩ : ∃ k7, (t.f0 == 7) = k7 := ⟨_, rfl⟩
   obtain ⟨k8, hk8⟩ : ∃ k8, (t.f0 == 8) = k8 := ⟨_, rfl⟩
   cases b with
   | true =>
    have HSR := Lib.hid (PStep.refl p vt ve W0)
    cases k7 with
    | true =>
     have hn : isNote t = true := by unfold isNote; rw [hk7, hk8]; rfl
     have hput : put ⟨todo, d, true, 0, false⟩ t = ([] ++ [noteE t], 0, ⟨todo, d, true, 0, false⟩) := by unfold put preE preD; simp [hn]
     have HPU := Lib.hid hput
     clear hput hn
     go_upto_region 13 with (first
      | ((with_reducible refine gate_ (.store 41 (.tmp 31) (.const (.slice none 0 0))) rfl ?_); refine wl_cells rfl rfl _ _ _ rfl (g := p) (off := 1) (.slice none 0 0) [.slice none 0 0] rfl rfl rfl (by kernel_rfl) (fun v hv => by rw [List.mem_singleton.1 hv]; rfl) HP0.out.box (by simp) ?_; intro V1 hV; obtain ⟨hA, hS⟩ := HP0.out.upd 1 (.slice none 0 0) (by decide) (s' := todo) (es' := []) (d' := d) (b' := true) (wr' := 0) (cl' := false) (vt' := vt) (ve' := .slice none 0 0) rfl HP0.out.todo (nil_row _ _ _ _) (fun _ h => h) (fun _ h => by cases h); rw [← hV] at hA hS; have HP1 := Lib.hid hA; have HS1 := Lib.hid (HSR.out.trans hS); clear q0 q1 q2 q3 q4 q5 c0 c1 c2 c3 c4 c5 hV; obtain ⟨q0, q1, q2, q3, q4, q5⟩ := hA.cell; obtain ⟨c0, c1, c2, c3, c4, c5⟩ := six_cells (HS1.out.keep HP0.out HT0.out (by decide) (by decide) (by decide)); clear hA hS))
     obtain ⟨W6, hW6⟩ : ∃ V, V1.drew = V := ⟨_, rfl⟩
     have hb6 : Below V1.heap.size V1 W6 := by rw [← hW6]; exact (Below.refl _ V1).drew
     have hS6 : ∀ V, Below V1.heap.size V1 V → V.cell? ⟨p, 1, none⟩ = some (.slice none 0 0) ∧ V.cell? ⟨w.heap.size, 0, none⟩ = some (.int .u8 t.f0) ∧ V.cell? ⟨w.heap.size, 1, none⟩ = some (.string t.f1) ∧ V.cell? ⟨w.heap.size, 2, none⟩ = some (.int .i64 t.f2.f0) ∧ V.cell? ⟨w.heap.size, 3, none⟩ = some (.int .i64 t.f2.f1) ∧ V.cell? ⟨w.heap.size, 4, none⟩ = some (.int .i64 t.f2.f2) ∧ V.cell? ⟨w.heap.size, 5, none⟩ = some (.int .i64 t.f3) := fun V hV => ⟨pw_cell_below hV q1, pw_cell_below hV c0, pw_cell_below hV c1, pw_cell_below hV c2, pw_cell_below hV c3, pw_cell_below hV c4, pw_cell_below hV c5⟩
     have HSA := Lib.hid hS6
     have HS6 := Lib.hid (hS6 W6 hb6)
     have HB6 := Lib.hid hb6
     have HW6 := Lib.hid hW6
     have HP6 := Lib.hid (HP1.out.below hb6)
     have HT6 := Lib.hid ((HS1.out.trans (PStep.below hb6)).keep HP0.out HT0.out (by decide) (by decide) (by decide))
     clear hS6 hb6 hW6
     refine wp_region_R (fun w' => w'.cell? ⟨p, 1, none⟩ = some (.slice none 0 0) ∧ w'.cell? ⟨w.heap.size, 0, none⟩ = some (.int .u8 t.f0) ∧ w'.cell? ⟨w.heap.size, 1, none⟩ = some (.string t.f1) ∧ w'.cell? ⟨w.heap.size, 2, none⟩ = some (.int .i64 t.f2.f0) ∧ w'.cell? ⟨w.heap.size, 3, none⟩ = some (.int .i64 t.f2.f1) ∧ w'.cell? ⟨w.heap.size, 4, none⟩ = some (.int .i64 t.f2.f2) ∧ w'.cell? ⟨w.heap.size, 5, none⟩ = some (.int .i64 t.f3)) (fun j => !(Nat.beq j 11)) (by kernel_rfl) ?_
     rw [HW6.out]
     refine anyR_take (i := 0) (oi := ⟨some 62, .move (.tmp 0), 39, "parse.go:107", #[], none⟩) (v := ?_) rfl (by kernel_rfl) (fun _ _ _ h => h) (Or.inl ⟨by rfl, ?_⟩) HS6.out ?_
     rotate_left
     ·intro x h; (try dsimp only at h); go_simp; try (with_reducible rfl)
     try simp only [Act.put, List.setIfInBounds_toArray, List.set]
     refine anyR_take (i := 1) (oi := ⟨some 63, .move (.tmp 0), 39, "parse.go:107", #[], none⟩) (v := ?_) rfl (by kernel_rfl) (fun _ _ _ h => h) (Or.inl ⟨by rfl, ?_⟩) HS6.out ?_
     rotate_left
     ·intro x h; (try dsimp only at h); go_simp; try (with_reducible rfl)
     try simp only [Act.put, List.setIfInBounds_toArray, List.set]
     refine anyR_take (i := 2) (oi := ⟨some 64, .nilCheck (.tmp 63), 0, "parse.go:107", #[⟨1, .data⟩], none⟩) (v := ?_) rfl (by kernel_rfl) (fun _ _ _ h => h) (Or.inl ⟨by rfl, ?_⟩) HS6.out ?_
     rotate_left
     ·intro x h; (try dsimp only at h); go_simp; try (with_reducible rfl)
     try simp only [Act.put, List.setIfInBounds_toArray, List.set]
     refine anyR_take (i := 3) (oi := ⟨some 65, .fieldAddr 72 (.tmp 64) 1, 0, "parse.go:107", #[⟨2, .data⟩], none⟩) (v := ?_) rfl (by kernel_rfl) (fun _ _ _ h => h) (Or.inl ⟨by rfl, ?_⟩) HS6.out ?_
     rotate_left
     ·intro x h; (try dsimp only at h); go_simp; try (with_reducible rfl)
     try simp only [Act.put, List.setIfInBounds_toArray, List.set]
     refine anyR_take (i := 4) (oi := ⟨some 66, .load 41 (.tmp 65), 41, "parse.go:107", #[⟨3, .data⟩], none⟩) (v := ?_) rfl (by kernel_rfl) (fun _ _ _ h => h) (Or.inl ⟨by rfl, ?_⟩) HS6.out ?_
     rotate_left
     ·intro x h; (try dsimp only at h); go_simp; try (with_reducible rfl)
     try simp only [Act.put, List.setIfInBounds_toArray, List.set]
     refine anyR_take (i := 5) (oi := ⟨some 67, .load 28 (.tmp 3), 28, "parse.go:107", #[], none⟩) (v := ?_) rfl (by kernel_rfl) (fun _ _ _ h => h) (Or.inl ⟨by rfl, ?_⟩) HS6.out ?_
     rotate_left
     ·intro x h; (try dsimp only at h); go_simp; try (with_reducible rfl)
     try simp only [Act.put, List.setIfInBounds_toArray, List.set]
     refine anyR_take (i := 6) (oi := ⟨some 68, .build 48 #[(0, .const (.int .u8 4)), (2, .tmp 67)], 48, "parse.go:107", #[⟨5, .data⟩], none⟩) (v := ?_) rfl (by kernel_rfl) (fun _ _ _ h => h) (Or.inl ⟨by rfl, ?_⟩) HS6.out ?_
     rotate_left
     ·intro x h; (try dsimp only at h); go_simp; try (with_reducible rfl)
     try simp only [Act.put, List.setIfInBounds_toArray, List.set]
     refine anyR_ready (rs := [7]) (by kernel_rfl) (by simp) ?_
     refine ReadyR.cons (o := ⟨some 69, .buildSlice 41 1 #[(0, .tmp 68)], 41, "parse.go:107", #[⟨6, .data⟩], none⟩) rfl (fun K hK => ?_) ReadyR.nil
     go_simp
     refine hK.out _ _ (fun _ => HSA.out _ (HB6.out.alloc HB6.out.size _)) ?_
     clear hK K
     try simp only [Act.put, List.setIfInBounds_toArray, List.set]
     refine anyR_ready (rs := [8]) (by kernel_rfl) (by simp) ?_
     refine ReadyR.cons (o := ⟨some 70, .call { callee := .builtin .append, args := #[.tmp 66, .tmp 69], argTypes := #[41, 41] }, 41, "parse.go:107", #[⟨4, .data⟩, ⟨7, .data⟩], none⟩) rfl (fun K hK => ?_) ReadyR.nil
     refine step_ev (W := W6) rfl (.tmp 66) (.tmp 69) rfl p (u := .slice none 0 0) (q := 0) (kc := ([] : List Ev).flatMap evCells) (cs := [.int .u8 4, .int .u8 0, .int .u8 t.f0, .string t.f1, .int .i64 t.f2.f0, .int .i64 t.f2.f1, .int .i64 t.f2.f2, .int .i64 t.f3]) rfl rfl HP6.out.evs rfl (evCells_one (noteE t)) (Nat.le_of_lt (blk_lt HP6.out.box)) (by decide) ?_
     intro G9 C9 w6 ho hg hat
     obtain ⟨⟨cur6, hcur, hfit⟩, hnx⟩ := ev_next (e := noteE t) HP6.out ho hg hat
     have hpe : ((.slice none 0 0 : Value)).ownBlock ≠ some p := fun e => by
      obtain ⟨cs, hc⟩ := own_typed HP6.out.evs p e
      rw [HP6.out.box] at hc; exact absurd (cells_ty hc) (by decide)
     have hpt : some w.heap.size ≠ ((.slice none 0 0 : Value)).ownBlock := fun e => by
      obtain ⟨cs, hc⟩ := own_typed HP6.out.evs w.heap.size e.symm
      rw [HT6.out] at hc; exact absurd (cells_ty hc) (by decide)
     have hc1 := World.cell?_of_block (a := ⟨p, 1, none⟩) (hg.block p (blk_lt HP6.out.box) (fun e => hpe e.symm))
     have hbT := hg.block w.heap.size (blk_lt HT6.out) hpt
     have hS7 : w6.cell? ⟨p, 1, none⟩ = some (.slice none 0 0) ∧ w6.cell? ⟨w.heap.size, 0, none⟩ = some (.int .u8 t.f0) ∧ w6.cell? ⟨w.heap.size, 1, none⟩ = some (.string t.f1) ∧ w6.cell? ⟨w.heap.size, 2, none⟩ = some (.int .i64 t.f2.f0) ∧ w6.cell? ⟨w.heap.size, 3, none⟩ = some (.int .i64 t.f2.f1) ∧ w6.cell? ⟨w.heap.size, 4, none⟩ = some (.int .i64 t.f2.f2) ∧ w6.cell? ⟨w.heap.size, 5, none⟩ = some (.int .i64 t.f3) := ⟨hc1.trans HS6.out.1, (World.cell?_of_block hbT).trans HS6.out.2.1, (World.cell?_of_block hbT).trans HS6.out.2.2.1, (World.cell?_of_block hbT).trans HS6.out.2.2.2.1, (World.cell?_of_block hbT).trans HS6.out.2.2.2.2.1, (World.cell?_of_block hbT).trans HS6.out.2.2.2.2.2.1, (World.cell?_of_block hbT).trans HS6.out.2.2.2.2.2.2⟩
     have HS7 := Lib.hid hS7
     have HCU := Lib.hid (And.intro hcur hfit)
     have HNX := Lib.hid hnx
     refine hK.out _ _ (fun _ => hS7) ?_
     clear hK K ho hg hat hpe hpt hc1 hbT hS7 hcur hfit hnx
     try simp only [Act.put, List.setIfInBounds_toArray, List.set]
     refine anyR_ready (rs := [9]) (by kernel_rfl) (by simp) ?_
     refine ReadyR.cons (o := ⟨some 71, .nilCheck (.tmp 62), 0, "parse.go:107", #[⟨0, .data⟩, ⟨0, .phase⟩, ⟨1, .phase⟩, ⟨2, .phase⟩, ⟨3, .phase⟩, ⟨4, .phase⟩, ⟨5, .phase⟩, ⟨6, .phase⟩, ⟨7, .phase⟩, ⟨8, .phase⟩], none⟩) rfl (fun K hK => ?_) ReadyR.nil
     go_simp
     refine hK.out _ _ (fun _ => HS7.out) ?_
     clear hK K
     try simp only [Act.put, List.setIfInBounds_toArray, List.set]
     refine anyR_ready (rs := [10]) (by kernel_rfl) (by simp) ?_
     refine ReadyR.cons (o := ⟨some 72, .fieldAddr 72 (.tmp 71) 1, 0, "parse.go:107", #[⟨9, .data⟩, ⟨0, .phase⟩, ⟨1, .phase⟩, ⟨2, .phase⟩, ⟨3, .phase⟩, ⟨4, .phase⟩, ⟨5, .phase⟩, ⟨6, .phase⟩, ⟨7, .phase⟩, ⟨8, .phase⟩], none⟩) rfl (fun K hK => ?_) ReadyR.nil
     go_simp
     refine hK.out _ _ (fun _ => HS7.out) ?_
     clear hK K
     try simp only [Act.put, List.setIfInBounds_toArray, List.set]
     refine anyR_ready (rs := [11]) (by kernel_rfl) (by simp) ?_
     refine ReadyR.cons (o := ⟨none, .store 41 (.tmp 72) (.tmp 70), 0, "parse.go:107", #[⟨10, .data⟩, ⟨8, .data⟩, ⟨8, .chain⟩, ⟨0, .phase⟩, ⟨1, .phase⟩, ⟨2, .phase⟩, ⟨3, .phase⟩, ⟨4, .phase⟩, ⟨5, .phase⟩, ⟨6, .phase⟩, ⟨7, .phase⟩, ⟨8, .phase⟩], none⟩) rfl (fun K hK => ?_) ReadyR.nil
     refine step_store rfl rfl 41 (.tmp 72) (.tmp 70) rfl (g := p) (off := 1) (.slice (some ⟨G9, 0, none⟩) (0 + 1) C9) [.slice (some ⟨G9, 0, none⟩) (0 + 1) C9] rfl rfl rfl (by kernel_rfl) (fun v hv => by rw [List.mem_singleton.1 hv]; rfl) HCU.out.1 HCU.out.2 ?_
     have HN7 := Lib.hid (HNX.out _ rfl)
     refine hK.out _ _ (fun h => by cases h) ?_
     clear hK K HNX HCU HS7
     generalize w6.setCells p 1 [.slice (some ⟨G9, 0, none⟩) (0 + 1) C9] = V7 at HN7 ⊢
     try simp only [Act.put, List.setIfInBounds_toArray, List.set]
     refine anyR_done (by kernel_rfl) ?_ _
     have HP7 : Hid (PAt V7 p todo ([] ++ [noteE t]) d true 0 false vt (.slice (some ⟨G9, 0, none⟩) (0 + 1) C9)) := Lib.hid HN7.out.1
     have HS7 := Lib.hid (HS1.out.trans ((PStep.below HB6.out).trans HN7.out.2))
     clear q0 q1 q2 q3 q4 q5 c0 c1 c2 c3 c4 c5 HN7
     obtain ⟨q0, q1, q2, q3, q4, q5⟩ := HP7.out.cell
     obtain ⟨c0, c1, c2, c3, c4, c5⟩ := six_cells (HS7.out.keep HP0.out HT0.out (by decide) (by decide) (by decide))
     go_wp2_with (((with_reducible refine gate_ (.store 4 (.tmp 94) (.const (.bool true))) rfl ?_); refine wl_cells rfl rfl _ _ _ rfl (g := p) (off := 3) (.bool true) [.bool true] rfl rfl rfl (by kernel_rfl) (fun v hv => by rw [List.mem_singleton.1 hv]; rfl) HP7.out.box (by simp) ?_; intro V8 hV; obtain ⟨hA, hS⟩ := HP7.out.upd 3 (.bool true) (by decide) (s' := todo) (es' := ([] ++ [noteE t])) (d' := d) (b' := true) (wr' := 0) (cl' := false) (vt' := vt) (ve' := .slice (some ⟨G9, 0, none⟩) (0 + 1) C9) rfl HP7.out.todo HP7.out.evs (fun _ h => h) (fun _ h => h); rw [← hV] at hA hS; have HP8 := Lib.hid hA; have HS8 := Lib.hid (HS7.out.trans hS); clear q0 q1 q2 q3 q4 q5 c0 c1 c2 c3 c4 c5 hV; obtain ⟨q0, q1, q2, q3, q4, q5⟩ := hA.cell; obtain ⟨c0, c1, c2, c3, c4, c5⟩ := six_cells (HS8.out.keep HP0.out HT0.out (by decide) (by decide) (by decide)); clear hA hS))
     go_ret2
     unfold PutPost
     rw [HPU.out]
     exact ⟨_, _, _, _, rfl, HP8.out, HS0.out.trans HS8.out, HP8.out.evs, .inl rfl⟩
    | false =>
     cases k8 with
     | true =>
      have hn : isNote t = true := by unfold isNote; rw [hk7, hk8]; rfl
      have hput : put ⟨todo, d, true, 0, false⟩ t = ([] ++ [noteE t], 0, ⟨todo, d, true, 0, false⟩) := by unfold put preE preD; simp [hn]
      have HPU := Lib.hid hput
      clear hput hn
      go_upto_region 13 with (first
       | ((with_reducible refine gate_ (.store 41 (.tmp 31) (.const (.slice none 0 0))) rfl ?_); refine wl_cells rfl rfl _ _ _ rfl (g := p) (off := 1) (.slice none 0 0) [.slice none 0 0] rfl rfl rfl (by kernel_rfl) (fun v hv => by rw [List.mem_singleton.1 hv]; rfl) HP0.out.box (by simp) ?_; intro V1 hV; obtain ⟨hA, hS⟩ := HP0.out.upd 1 (.slice none 0 0) (by decide) (s' := todo) (es' := []) (d' := d) (b' := true) (wr' := 0) (cl' := false) (vt' := vt) (ve' := .slice none 0 0) rfl HP0.out.todo (nil_row _ _ _ _) (fun _ h => h) (fun _ h => by cases h); rw [← hV] at hA hS; have HP1 := Lib.hid hA; have HS1 := Lib.hid (HSR.out.trans hS); clear q0 q1 q2 q3 q4 q5 c0 c1 c2 c3 c4 c5 hV; obtain ⟨q0, q1, q2, q3, q4, q5⟩ := hA.cell; obtain ⟨c0, c1, c2, c3, c4, c5⟩ := six_cells (HS1.out.keep HP0.out HT0.out (by decide) (by decide) (by decide)); clear hA hS))
      obtain ⟨W6, hW6⟩ : ∃ V, V1.drew = V := ⟨_, rfl⟩
      have hb6 : Below V1.heap.size V1 W6 := by rw [← hW6]; exact (Below.refl _ V1).drew
      have hS6 : ∀ V, Below V1.heap.size V1 V → V.cell? ⟨p, 1, none⟩ = some (.slice none 0 0) ∧ V.cell? ⟨w.heap.size, 0, none⟩ = some (.int .u8 t.f0) ∧ V.cell? ⟨w.heap.size, 1, none⟩ = some (.string t.f1) ∧ V.cell? ⟨w.heap.size, 2, none⟩ = some (.int .i64 t.f2.f0) ∧ V.cell? ⟨w.heap.size, 3, none⟩ = some (.int .i64 t.f2.f1) ∧ V.cell? ⟨w.heap.size, 4, none⟩ = some (.int .i64 t.f2.f2) ∧ V.cell? ⟨w.heap.size, 5, none⟩ = some (.int .i64 t.f3) := fun V hV => ⟨pw_cell_below hV q1, pw_cell_below hV c0, pw_cell_below hV c1, pw_cell_below hV c2, pw_cell_below hV c3, pw_cell_below hV c4, pw_cell_below hV c5⟩
      have HSA := Lib.hid hS6
      have HS6 := Lib.hid (hS6 W6 hb6)
      have HB6 := Lib.hid hb6
      have HW6 := Lib.hid hW6
      have HP6 := Lib.hid (HP1.out.below hb6)
      have HT6 := Lib.hid ((HS1.out.trans (PStep.below hb6)).keep HP0.out HT0.out (by decide) (by decide) (by decide))
      clear hS6 hb6 hW6
      refine wp_region_R (fun w' => w'.cell? ⟨p, 1, none⟩ = some (.slice none 0 0) ∧ w'.cell? ⟨w.heap.size, 0, none⟩ = some (.int .u8 t.f0) ∧ w'.cell? ⟨w.heap.size, 1, none⟩ = some (.string t.f1) ∧ w'.cell? ⟨w.heap.size, 2, none⟩ = some (.int .i64 t.f2.f0) ∧ w'.cell? ⟨w.heap.size, 3, none⟩ = some (.int .i64 t.f2.f1) ∧ w'.cell? ⟨w.heap.size, 4, none⟩ = some (.int .i64 t.f2.f2) ∧ w'.cell? ⟨w.heap.size, 5, none⟩ = some (.int .i64 t.f3)) (fun j => !(Nat.beq j 11)) (by kernel_rfl) ?_
      rw [HW6.out]
      refine anyR_take (i := 0) (oi := ⟨some 62, .move (.tmp 0), 39, "parse.go:107", #[], none⟩) (v := ?_) rfl (by kernel_rfl) (fun _ _ _ h => h) (Or.inl ⟨by rfl, ?_⟩) HS6.out ?_
      rotate_left
      ·intro x h; (try dsimp only at h); go_simp; try (with_reducible rfl)
      try simp only [Act.put, List.setIfInBounds_toArray, List.set]
      refine anyR_take (i := 1) (oi := ⟨some 63, .move (.tmp 0), 39, "parse.go:107", #[], none⟩) (v := ?_) rfl (by kernel_rfl) (fun _ _ _ h => h) (Or.inl ⟨by rfl, ?_⟩) HS6.out ?_
      rotate_left
      ·intro x h; (try dsimp only at h); go_simp; try (with_reducible rfl)
      try simp only [Act.put, List.setIfInBounds_toArray, List.set]
      refine anyR_take (i := 2) (oi := ⟨some 64, .nilCheck (.tmp 63), 0, "parse.go:107", #[⟨1, .data⟩], none⟩) (v := ?_) rfl (by kernel_rfl) (fun _ _ _ h => h) (Or.inl ⟨by rfl, ?_⟩) HS6.out ?_
      rotate_left
      ·intro x h; (try dsimp only at h); go_simp; try (with_reducible rfl)
      try simp only [Act.put, List.setIfInBounds_toArray, List.set]
      refine anyR_take (i := 3) (oi := ⟨some 65, .fieldAddr 72 (.tmp 64) 1, 0, "parse.go:107", #[⟨2, .data⟩], none⟩) (v := ?_) rfl (by kernel_rfl) (fun _ _ _ h => h) (Or.inl ⟨by rfl, ?_⟩) HS6.out ?_
      rotate_left
      ·intro x h; (try dsimp only at h); go_simp; try (with_reducible rfl)
      try simp only [Act.put, List.setIfInBounds_toArray, List.set]
      refine anyR_take (i := 4) (oi := ⟨some 66, .load 41 (.tmp 65), 41, "parse.go:107", #[⟨3, .data⟩], none⟩) (v := ?_) rfl (by kernel_rfl) (fun _ _ _ h => h) (Or.inl ⟨by rfl, ?_⟩) HS6.out ?_
      rotate_left
      ·intro x h; (try dsimp only at h); go_simp; try (with_reducible rfl)
      try simp only [Act.put, List.setIfInBounds_toArray, List.set]
      refine anyR_take (i := 5) (oi := ⟨some 67, .load 28 (.tmp 3), 28, "parse.go:107", #[], none⟩) (v := ?_) rfl (by kernel_rfl) (fun _ _ _ h => h) (Or.inl ⟨by rfl, ?_⟩) HS6.out ?_
      rotate_left
      ·intro x h; (try dsimp only at h); go_simp; try (with_reducible rfl)
      try simp only [Act.put, List.setIfInBounds_toArray, List.set]
      refine anyR_take (i := 6) (oi := ⟨some 68, .build 48 #[(0, .const (.int .u8 4)), (2, .tmp 67)], 48, "parse.go:107", #[⟨5, .data⟩], none⟩) (v := ?_) rfl (by kernel_rfl) (fun _ _ _ h => h) (Or.inl ⟨by rfl, ?_⟩) HS6.out ?_
      rotate_left
      ·intro x h; (try dsimp only at h); go_simp; try (with_reducible rfl)
      try simp only [Act.put, List.setIfInBounds_toArray, List.set]
      refine anyR_ready (rs := [7]) (by kernel_rfl) (by simp) ?_
      refine ReadyR.cons (o := ⟨some 69, .buildSlice 41 1 #[(0, .tmp 68)], 41, "parse.go:107", #[⟨6, .data⟩], none⟩) rfl (fun K hK => ?_) ReadyR.nil
      go_simp
      refine hK.out _ _ (fun _ => HSA.out _ (HB6.out.alloc HB6.out.size _)) ?_
      clear hK K
      try simp only [Act.put, List.setIfInBounds_toArray, List.set]
      refine anyR_ready (rs := [8]) (by kernel_rfl) (by simp) ?_
      refine ReadyR.cons (o := ⟨some 70, .call { callee := .builtin .append, args := #[.tmp 66, .tmp 69], argTypes := #[41, 41] }, 41, "parse.go:107", #[⟨4, .data⟩, ⟨7, .data⟩], none⟩) rfl (fun K hK => ?_) ReadyR.nil
      refine step_ev (W := W6) rfl (.tmp 66) (.tmp 69) rfl p (u := .slice none 0 0) (q := 0) (kc := ([] : List Ev).flatMap evCells) (cs := [.int .u8 4, .int .u8 0, .int .u8 t.f0, .string t.f1, .int .i64 t.f2.f0, .int .i64 t.f2.f1, .int .i64 t.f2.f2, .int .i64 t.f3]) rfl rfl HP6.out.evs rfl (evCells_one (noteE t)) (Nat.le_of_lt (blk_lt HP6.out.box)) (by decide) ?_
      intro G9 C9 w6 ho hg hat
      obtain ⟨⟨cur6, hcur, hfit⟩, hnx⟩ := ev_next (e := noteE t) HP6.out ho hg hat
      have hpe : ((.slice none 0 0 : Value)).ownBlock ≠ some p := fun e => by
       obtain ⟨cs, hc⟩ := own_typed HP6.out.evs p e
       rw [HP6.out.box] at hc; exact absurd (cells_ty hc) (by decide)
      have hpt : some w.heap.size ≠ ((.slice none 0 0 : Value)).ownBlock := fun e => by
       obtain ⟨cs, hc⟩ := own_typed HP6.out.evs w.heap.size e.symm
       rw [HT6.out] at hc; exact absurd (cells_ty hc) (by decide)
      have hc1 := World.cell?_of_block (a := ⟨p, 1, none⟩) (hg.block p (blk_lt HP6.out.box) (fun e => hpe e.symm))
      have hbT := hg.block w.heap.size (blk_lt HT6.out) hpt
      have hS7 : w6.cell? ⟨p, 1, none⟩ = some (.slice none 0 0) ∧ w6.cell? ⟨w.heap.size, 0, none⟩ = some (.int .u8 t.f0) ∧ w6.cell? ⟨w.heap.size, 1, none⟩ = some (.string t.f1) ∧ w6.cell? ⟨w.heap.size, 2, none⟩ = some (.int .i64 t.f2.f0) ∧ w6.cell? ⟨w.heap.size, 3, none⟩ = some (.int .i64 t.f2.f1) ∧ w6.cell? ⟨w.heap.size, 4, none⟩ = some (.int .i64 t.f2.f2) ∧ w6.cell? ⟨w.heap.size, 5, none⟩ = some (.int .i64 t.f3) := ⟨hc1.trans HS6.out.1, (World.cell?_of_block hbT).trans HS6.out.2.1, (World.cell?_of_block hbT).trans HS6.out.2.2.1, (World.cell?_of_block hbT).trans HS6.out.2.2.2.1, (World.cell?_of_block hbT).trans HS6.out.2.2.2.2.1, (World.cell?_of_block hbT).trans HS6.out.2.2.2.2.2.1, (World.cell?_of_block hbT).trans HS6.out.2.2.2.2.2.2⟩
      have HS7 := Lib.hid hS7
      have HCU := Lib.hid (And.intro hcur hfit)
      have HNX := Lib.hid hnx
      refine hK.out _ _ (fun _ => hS7) ?_
      clear hK K ho hg hat hpe hpt hc1 hbT hS7 hcur hfit hnx
      try simp only [Act.put, List.setIfInBounds_toArray, List.set]
      refine anyR_ready (rs := [9]) (by kernel_rfl) (by simp) ?_
      refine ReadyR.cons (o := ⟨some 71, .nilCheck (.tmp 62), 0, "parse.go:107", #[⟨0, .data⟩, ⟨0, .phase⟩, ⟨1, .phase⟩, ⟨2, .phase⟩, ⟨3, .phase⟩, ⟨4, .phase⟩, ⟨5, .phase⟩, ⟨6, .phase⟩, ⟨7, .phase⟩, ⟨8, .phase⟩], none⟩) rfl (fun K hK => ?_) ReadyR.nil
      go_simp
      refine hK.out _ _ (fun _ => HS7.out) ?_
      clear hK K
      try simp only [Act.put, List.setIfInBounds_toArray, List.set]
      refine anyR_ready (rs := [10]) (by kernel_rfl) (by simp) ?_
      refine ReadyR.cons (o := ⟨some 72, .fieldAddr 72 (.tmp 71) 1, 0, "parse.go:107", #[⟨9, .data⟩, ⟨0, .phase⟩, ⟨1, .phase⟩, ⟨2, .phase⟩, ⟨3, .phase⟩, ⟨4, .phase⟩, ⟨5, .phase⟩, ⟨6, .phase⟩, ⟨7, .phase⟩, ⟨8, .phase⟩], none⟩) rfl (fun K hK => ?_) ReadyR.nil
      go_simp
      refine hK.out _ _ (fun _ => HS7.out) ?_
      clear hK K
      try simp only [Act.put, List.setIfInBounds_toArray, List.set]
      refine anyR_ready (rs := [11]) (by kernel_rfl) (by simp) ?_
      refine ReadyR.cons (o := ⟨none, .store 41 (.tmp 72) (.tmp 70), 0, "parse.go:107", #[⟨10, .data⟩, ⟨8, .data⟩, ⟨8, .chain⟩, ⟨0, .phase⟩, ⟨1, .phase⟩, ⟨2, .phase⟩, ⟨3, .phase⟩, ⟨4, .phase⟩, ⟨5, .phase⟩, ⟨6, .phase⟩, ⟨7, .phase⟩, ⟨8, .phase⟩], none⟩) rfl (fun K hK => ?_) ReadyR.nil
      refine step_store rfl rfl 41 (.tmp 72) (.tmp 70) rfl (g := p) (off := 1) (.slice (some ⟨G9, 0, none⟩) (0 + 1) C9) [.slice (some ⟨G9, 0, none⟩) (0 + 1) C9] rfl rfl rfl (by kernel_rfl) (fun v hv => by rw [List.mem_singleton.1 hv]; rfl) HCU.out.1 HCU.out.2 ?_
      have HN7 := Lib.hid (HNX.out _ rfl)
      refine hK.out _ _ (fun h => by cases h) ?_
      clear hK K HNX HCU HS7
      generalize w6.setCells p 1 [.slice (some ⟨G9, 0, none⟩) (0 + 1) C9] = V7 at HN7 ⊢
      try simp only [Act.put, List.setIfInBounds_toArray, List.set]
      refine anyR_done (by kernel_rfl) ?_ _
      have HP7 : Hid (PAt V7 p todo ([] ++ [noteE t]) d true 0 false vt (.slice (some ⟨G9, 0, none⟩) (0 + 1) C9)) := Lib.hid HN7.out.1
      have HS7 := Lib.hid (HS1.out.trans ((PStep.below HB6.out).trans HN7.out.2))
      clear q0 q1 q2 q3 q4 q5 c0 c1 c2 c3 c4 c5 HN7
      obtain ⟨q0, q1, q2, q3, q4, q5⟩ := HP7.out.cell
      obtain ⟨c0, c1, c2, c3, c4, c5⟩ := six_cells (HS7.out.keep HP0.out HT0.out (by decide) (by decide) (by decide))
      go_wp2_with (((with_reducible refine gate_ (.store 4 (.tmp 94) (.const (.bool true))) rfl ?_); refine wl_cells rfl rfl _ _ _ rfl (g := p) (off := 3) (.bool true) [.bool true] rfl rfl rfl (by kernel_rfl) (fun v hv => by rw [List.mem_singleton.1 hv]; rfl) HP7.out.box (by simp) ?_; intro V8 hV; obtain ⟨hA, hS⟩ := HP7.out.upd 3 (.bool true) (by decide) (s' := todo) (es' := ([] ++ [noteE t])) (d' := d) (b' := true) (wr' := 0) (cl' := false) (vt' := vt) (ve' := .slice (some ⟨G9, 0, none⟩) (0 + 1) C9) rfl HP7.out.todo HP7.out.evs (fun _ h => h) (fun _ h => h); rw [← hV] at hA hS; have HP8 := Lib.hid hA; have HS8 := Lib.hid (HS7.out.trans hS); clear q0 q1 q2 q3 q4 q5 c0 c1 c2 c3 c4 c5 hV; obtain ⟨q0, q1, q2, q3, q4, q5⟩ := hA.cell; obtain ⟨c0, c1, c2, c3, c4, c5⟩ := six_cells (HS8.out.keep HP0.out HT0.out (by decide) (by decide) (by decide)); clear hA hS))
      go_ret2
      unfold PutPost
      rw [HPU.out]
      exact ⟨_, _, _, _, rfl, HP8.out, HS0.out.trans HS8.out, HP8.out.evs, .inl rfl⟩
     | false =>
      obtain ⟨⟨te, ts⟩, htr⟩ : ∃ tr, token t todo d = tr := ⟨_, rfl⟩
      have HTR := Lib.hid htr
      clear htr
      by_cases hte : te = 0
      ·subst hte
       have hn : isNote t = false := by unfold isNote; rw [hk7, hk8]; rfl
       have hput : put ⟨todo, d, true, 0, false⟩ t = ([] ++ ts.evs.map evOf ++ [leafE t], 0, ⟨ts.todo, ts.depth, true, 0, false⟩) := by unfold put preE preD; simp [hn, HTR.out]
       have HPU := Lib.hid hput
       clear hput hn
       go_wp2_with (first
        | ((with_reducible refine gate_ (.store 41 (.tmp 31) (.const (.slice none 0 0))) rfl ?_); refine wl_cells rfl rfl _ _ _ rfl (g := p) (off := 1) (.slice none 0 0) [.slice none 0 0] rfl rfl rfl (by kernel_rfl) (fun v hv => by rw [List.mem_singleton.1 hv]; rfl) HP0.out.box (by simp) ?_; intro V1 hV; obtain ⟨hA, hS⟩ := HP0.out.upd 1 (.slice none 0 0) (by decide) (s' := todo) (es' := []) (d' := d) (b' := true) (wr' := 0) (cl' := false) (vt' := vt) (ve' := .slice none 0 0) rfl HP0.out.todo (nil_row _ _ _ _) (fun _ h => h) (fun _ h => by cases h); rw [← hV] at hA hS; have HP1 := Lib.hid hA; have HS1 := Lib.hid (HSR.out.trans hS); clear q0 q1 q2 q3 q4 q5 c0 c1 c2 c3 c4 c5 hV; obtain ⟨q0, q1, q2, q3, q4, q5⟩ := hA.cell; obtain ⟨c0, c1, c2, c3, c4, c5⟩ := six_cells (HS1.out.keep HP0.out HT0.out (by decide) (by decide) (by decide)); clear hA hS)
        | (go_at_call 29; have htk := token_any p todo [] d true 0 false vt (.slice none 0 0) t V1 HP1.out (by have := HIN.out; dsimp only at this; omega) (by decide) (by have := HIN.out; dsimp only at this; omega) HIN.out.1; unfold TokPost at htk; rw [HTR.out] at htk; dsimp only at htk; rw [if_pos rfl] at htk; (with_reducible refine Calls.mono htk ?_); rintro e W5 ⟨rfl, vt5, ve5, hP5, hs5⟩; have HP5 := Lib.hid hP5; have HS5 := Lib.hid (HS1.out.trans hs5); clear q0 q1 q2 q3 q4 q5 c0 c1 c2 c3 c4 c5 htk hs5; obtain ⟨q0, q1, q2, q3, q4, q5⟩ := hP5.cell; obtain ⟨c0, c1, c2, c3, c4, c5⟩ := six_cells (HS5.out.keep HP0.out HT0.out (by decide) (by decide) (by decide)); clear hP5)
        | ((with_reducible refine gate_ (.store 33 (.tmp 78) (.tmp 76)) rfl ?_); refine wl_cells rfl rfl _ _ _ rfl (g := p) (off := 4) (.int .i64 0) [.int .i64 0] rfl rfl rfl (by kernel_rfl) (fun v hv => by rw [List.mem_singleton.1 hv]; rfl) HP5.out.box (by simp) ?_; intro V6 hV; obtain ⟨hA, hS⟩ := HP5.out.upd 4 (.int .i64 0) (by decide) (s' := ts.todo) (es' := ([] ++ ts.evs.map evOf ++ [leafE t])) (d' := ts.depth) (b' := true) (wr' := 0) (cl' := false) (vt' := vt5) (ve' := ve5) rfl HP5.out.todo HP5.out.evs (fun _ h => h) (fun _ h => h); rw [← hV] at hA hS; have HP6 := Lib.hid hA; have HS6 := Lib.hid (HS5.out.trans hS); clear q0 q1 q2 q3 q4 q5 c0 c1 c2 c3 c4 c5 hV; obtain ⟨q0, q1, q2, q3, q4, q5⟩ := hA.cell; obtain ⟨c0, c1, c2, c3, c4, c5⟩ := six_cells (HS6.out.keep HP0.out HT0.out (by decide) (by decide) (by decide)); clear hA hS)
        | ((with_reducible refine gate_ (.store 4 (.tmp 94) (.const (.bool true))) rfl ?_); refine wl_cells rfl rfl _ _ _ rfl (g := p) (off := 3) (.bool true) [.bool true] rfl rfl rfl (by kernel_rfl) (fun v hv => by rw [List.mem_singleton.1 hv]; rfl) HP6.out.box (by simp) ?_; intro V7 hV; obtain ⟨hA, hS⟩ := HP6.out.upd 3 (.bool true) (by decide) (s' := ts.todo) (es' := ([] ++ ts.evs.map evOf ++ [leafE t])) (d' := ts.depth) (b' := true) (wr' := 0) (cl' := false) (vt' := vt5) (ve' := ve5) rfl HP6.out.todo HP6.out.evs (fun _ h => h) (fun _ h => h); rw [← hV] at hA hS; have HP7 := Lib.hid hA; have HS7 := Lib.hid (HS6.out.trans hS); clear q0 q1 q2 q3 q4 q5 c0 c1 c2 c3 c4 c5 hV; obtain ⟨q0, q1, q2, q3, q4, q5⟩ := hA.cell; obtain ⟨c0, c1, c2, c3, c4, c5⟩ := six_cells (HS7.out.keep HP0.out HT0.out (by decide) (by decide) (by decide)); clear hA hS))
       go_ret2
       unfold PutPost
       rw [HPU.out]
       exact ⟨_, _, _, _, rfl, HP7.out, HS0.out.trans HS7.out, HP7.out.evs, .inl rfl⟩
      ·skip
       have hn : isNote t = false := by unfold isNote; rw [hk7, hk8]; rfl
       have hput : put ⟨todo, d, true, 0, false⟩ t = ([], te, ⟨ts.todo, d, true, te, false⟩) := by unfold put preE preD; simp [hn, HTR.out, hte]
       have HPU := Lib.hid hput
       clear hput hn
       have HTE := Lib.hid hte
       have e9 : (te != 0) = true := by rw [bne_iff_ne]; exact hte
       clear hte
       go_upto_region 17 with (first
        | ((with_reducible refine gate_ (.store 41 (.tmp 31) (.const (.slice none 0 0))) rfl ?_); refine wl_cells rfl rfl _ _ _ rfl (g := p) (off := 1) (.slice none 0 0) [.slice none 0 0] rfl rfl rfl (by kernel_rfl) (fun v hv => by rw [List.mem_singleton.1 hv]; rfl) HP0.out.box (by simp) ?_; intro V1 hV; obtain ⟨hA, hS⟩ := HP0.out.upd 1 (.slice none 0 0) (by decide) (s' := todo) (es' := []) (d' := d) (b' := true) (wr' := 0) (cl' := false) (vt' := vt) (ve' := .slice none 0 0) rfl HP0.out.todo (nil_row _ _ _ _) (fun _ h => h) (fun _ h => by cases h); rw [← hV] at hA hS; have HP1 := Lib.hid hA; have HS1 := Lib.hid (HSR.out.trans hS); clear q0 q1 q2 q3 q4 q5 c0 c1 c2 c3 c4 c5 hV; obtain ⟨q0, q1, q2, q3, q4, q5⟩ := hA.cell; obtain ⟨c0, c1, c2, c3, c4, c5⟩ := six_cells (HS1.out.keep HP0.out HT0.out (by decide) (by decide) (by decide)); clear hA hS)
        | (go_at_call 29; have htk := token_any p todo [] d true 0 false vt (.slice none 0 0) t V1 HP1.out (by have := HIN.out; dsimp only at this; omega) (by decide) (by have := HIN.out; dsimp only at this; omega) HIN.out.1; unfold TokPost at htk; rw [HTR.out] at htk; dsimp only at htk; rw [if_neg HTE.out] at htk; (with_reducible refine Calls.mono htk ?_); rintro e W5 ⟨rfl, vt5, ve5, hP5, hs5⟩; have HP5 := Lib.hid hP5; have HS5 := Lib.hid (HS1.out.trans hs5); clear q0 q1 q2 q3 q4 q5 c0 c1 c2 c3 c4 c5 htk hs5; obtain ⟨q0, q1, q2, q3, q4, q5⟩ := hP5.cell; obtain ⟨c0, c1, c2, c3, c4, c5⟩ := six_cells (HS5.out.keep HP0.out HT0.out (by decide) (by decide) (by decide)); clear hP5)
        | ((with_reducible refine gate_ (.store 33 (.tmp 78) (.tmp 76)) rfl ?_); refine wl_cells rfl rfl _ _ _ rfl (g := p) (off := 4) (.int .i64 te) [.int .i64 te] rfl rfl rfl (by kernel_rfl) (fun v hv => by rw [List.mem_singleton.1 hv]; rfl) HP5.out.box (by simp) ?_; intro V6 hV; obtain ⟨hA, hS⟩ := HP5.out.upd 4 (.int .i64 te) (by decide) (s' := ts.todo) (es' := ([] ++ ts.evs.map evOf ++ [])) (d' := ts.depth) (b' := true) (wr' := te) (cl' := false) (vt' := vt5) (ve' := ve5) rfl HP5.out.todo HP5.out.evs (fun _ h => h) (fun _ h => h); rw [← hV] at hA hS; have HP6 := Lib.hid hA; have HS6 := Lib.hid (HS5.out.trans hS); clear q0 q1 q2 q3 q4 q5 c0 c1 c2 c3 c4 c5 hV; obtain ⟨q0, q1, q2, q3, q4, q5⟩ := hA.cell; obtain ⟨c0, c1, c2, c3, c4, c5⟩ := six_cells (HS6.out.keep HP0.out HT0.out (by decide) (by decide) (by decide)); clear hA hS)
        | ((with_reducible refine gate_ (.store 3 (.tmp 87) (.tmp 85)) rfl ?_); refine wl_cells rfl rfl _ _ _ rfl (g := p) (off := 2) (.int .i64 d) [.int .i64 d] rfl rfl rfl (by kernel_rfl) (fun v hv => by rw [List.mem_singleton.1 hv]; rfl) HP6.out.box (by simp) ?_; intro V7 hV; obtain ⟨hA, hS⟩ := HP6.out.upd 2 (.int .i64 d) (by decide) (s' := ts.todo) (es' := ([] ++ ts.evs.map evOf ++ [])) (d' := d) (b' := true) (wr' := te) (cl' := false) (vt' := vt5) (ve' := ve5) rfl HP6.out.todo HP6.out.evs (fun _ h => h) (fun _ h => h); rw [← hV] at hA hS; have HP7 := Lib.hid hA; have HS7 := Lib.hid (HS6.out.trans hS); clear q0 q1 q2 q3 q4 q5 c0 c1 c2 c3 c4 c5 hV; obtain ⟨q0, q1, q2, q3, q4, q5⟩ := hA.cell; obtain ⟨c0, c1, c2, c3, c4, c5⟩ := six_cells (HS7.out.keep HP0.out HT0.out (by decide) (by decide) (by decide)); clear hA hS))
       go_region
       go_wp2
       go_ret2
       unfold PutPost
       rw [HPU.out]
       exact ⟨_, _, _, _, rfl, HP7.out.below (below_drew _), HS0.out.trans (HS7.out.trans (PStep.below (below_drew _))), nil_row _ _ _ _, .inr rfl⟩
   | false =>
    have HSR := Lib.hid (PStep.refl p vt ve W0)
    have hwd : IntKind.i64.wrap (d + 1) = d + 1 := by rw [IntKind.wrap_i64]; have := HIN.out; dsimp only at this; omega
    cases k7 with
    | true =>
     have hn : isNote t = true := by unfold isNote; rw [hk7, hk8]; rfl
     have hput : put ⟨todo, d, false, 0, false⟩ t = ([evOf (1, 1)] ++ [noteE t], 0, ⟨todo, (d + 1), true, 0, false⟩) := by unfold put preE preD; simp [hn]
     have HPU := Lib.hid hput
     clear hput hn
     go_upto_region 13 with (first
      | ((with_reducible refine gate_ (.store 41 (.tmp 31) (.const (.slice none 0 0))) rfl ?_); refine wl_cells rfl rfl _ _ _ rfl (g := p) (off := 1) (.slice none 0 0) [.slice none 0 0] rfl rfl rfl (by kernel_rfl) (fun v hv => by rw [List.mem_singleton.1 hv]; rfl) HP0.out.box (by simp) ?_; intro V1 hV; obtain ⟨hA, hS⟩ := HP0.out.upd 1 (.slice none 0 0) (by decide) (s' := todo) (es' := []) (d' := d) (b' := false) (wr' := 0) (cl' := false) (vt' := vt) (ve' := .slice none 0 0) rfl HP0.out.todo (nil_row _ _ _ _) (fun _ h => h) (fun _ h => by cases h); rw [← hV] at hA hS; have HP1 := Lib.hid hA; have HS1 := Lib.hid (HSR.out.trans hS); clear q0 q1 q2 q3 q4 q5 c0 c1 c2 c3 c4 c5 hV; obtain ⟨q0, q1, q2, q3, q4, q5⟩ := hA.cell; obtain ⟨c0, c1, c2, c3, c4, c5⟩ := six_cells (HS1.out.keep HP0.out HT0.out (by decide) (by decide) (by decide)); clear hA hS)
      | ((with_reducible refine gate_dst (N := 44) rfl ?_); refine wl_ev rfl (.tmp 41) (.tmp 43) rfl p (u := .slice none 0 0) (q := 0) (kc := []) (cs := [.int .u8 1, .int .u8 1, .int .u8 0, .string ⟨#[]⟩, .int .i64 0, .int .i64 0, .int .i64 0, .int .i64 0]) rfl rfl (nil_row _ _ _ _) rfl (evCells_one (evOf (1, 1))) (Nat.le_of_lt (blk_lt HP1.out.box)) (by decide) ?_; intro G1 C1 w1 ho hg hat; obtain ⟨⟨cur, hcur, hfit⟩, hnx⟩ := ev_next (e := evOf (1, 1)) HP1.out ho hg hat; have HCU := Lib.hid (And.intro hcur hfit); have HNX := Lib.hid hnx; clear ho hg hat hcur hfit hnx)
      | ((with_reducible refine gate_ (.store 41 (.tmp 46) (.tmp 44)) rfl ?_); refine wl_cells rfl rfl _ _ _ rfl (g := p) (off := 1) (.slice (some ⟨G1, 0, none⟩) (0 + 1) C1) [.slice (some ⟨G1, 0, none⟩) (0 + 1) C1] rfl rfl rfl (by kernel_rfl) (fun v hv => by rw [List.mem_singleton.1 hv]; rfl) HCU.out.1 HCU.out.2 ?_; intro V2 hV; obtain ⟨hA, hS⟩ := HNX.out V2 hV; have HP2 : Hid (PAt V2 p todo [evOf (1, 1)] d false 0 false vt (.slice (some ⟨G1, 0, none⟩) (0 + 1) C1)) := Lib.hid hA; have HS2 := Lib.hid (HS1.out.trans hS); clear q0 q1 q2 q3 q4 q5 c0 c1 c2 c3 c4 c5 hV HNX HCU; obtain ⟨q0, q1, q2, q3, q4, q5⟩ := hA.cell; obtain ⟨c0, c1, c2, c3, c4, c5⟩ := six_cells (HS2.out.keep HP0.out HT0.out (by decide) (by decide) (by decide)); clear hA hS)
      | ((with_reducible refine gate_ (.store 3 (.tmp 53) (.tmp 51)) rfl ?_); refine wl_cells rfl rfl _ _ _ rfl (g := p) (off := 2) (.int .i64 (d + 1)) [.int .i64 (d + 1)] rfl rfl rfl (by kernel_rfl) (fun v hv => by rw [List.mem_singleton.1 hv]; rfl) HP2.out.box (by simp) ?_; intro V3 hV; obtain ⟨hA, hS⟩ := HP2.out.upd 2 (.int .i64 (d + 1)) (by decide) (s' := todo) (es' := [evOf (1, 1)]) (d' := (d + 1)) (b' := false) (wr' := 0) (cl' := false) (vt' := vt) (ve' := .slice (some ⟨G1, 0, none⟩) (0 + 1) C1) rfl HP2.out.todo HP2.out.evs (fun _ h => h) (fun _ h => h); rw [← hV] at hA hS; have HP3 := Lib.hid hA; have HS3 := Lib.hid (HS2.out.trans hS); clear q0 q1 q2 q3 q4 q5 c0 c1 c2 c3 c4 c5 hV; obtain ⟨q0, q1, q2, q3, q4, q5⟩ := hA.cell; obtain ⟨c0, c1, c2, c3, c4, c5⟩ := six_cells (HS3.out.keep HP0.out HT0.out (by decide) (by decide) (by decide)); clear hA hS))
     obtain ⟨W6, hW6⟩ : ∃ V, V3.drew = V := ⟨_, rfl⟩
     have hb6 : Below V3.heap.size V3 W6 := by rw [← hW6]; exact (Below.refl _ V3).drew
     have hS6 : ∀ V, Below V3.heap.size V3 V → V.cell? ⟨p, 1, none⟩ = some (.slice (some ⟨G1, 0, none⟩) (0 + 1) C1) ∧ V.cell? ⟨w.heap.size, 0, none⟩ = some (.int .u8 t.f0) ∧ V.cell? ⟨w.heap.size, 1, none⟩ = some (.string t.f1) ∧ V.cell? ⟨w.heap.size, 2, none⟩ = some (.int .i64 t.f2.f0) ∧ V.cell? ⟨w.heap.size, 3, none⟩ = some (.int .i64 t.f2.f1) ∧ V.cell? ⟨w.heap.size, 4, none⟩ = some (.int .i64 t.f2.f2) ∧ V.cell? ⟨w.heap.size, 5, none⟩ = some (.int .i64 t.f3) := fun V hV => ⟨pw_cell_below hV q1, pw_cell_below hV c0, pw_cell_below hV c1, pw_cell_below hV c2, pw_cell_below hV c3, pw_cell_below hV c4, pw_cell_below hV c5⟩
     have HSA := Lib.hid hS6
     have HS6 := Lib.hid (hS6 W6 hb6)
     have HB6 := Lib.hid hb6
     have HW6 := Lib.hid hW6
     have HP6 := Lib.hid (HP3.out.below hb6)
     have HT6 := Lib.hid ((HS3.out.trans (PStep.below hb6)).keep HP0.out HT0.out (by decide) (by decide) (by decide))
     clear hS6 hb6 hW6
     refine wp_region_R (fun w' => w'.cell? ⟨p, 1, none⟩ = some (.slice (some ⟨G1, 0, none⟩) (0 + 1) C1) ∧ w'.cell? ⟨w.heap.size, 0, none⟩ = some (.int .u8 t.f0) ∧ w'.cell? ⟨w.heap.size, 1, none⟩ = some (.string t.f1) ∧ w'.cell? ⟨w.heap.size, 2, none⟩ = some (.int .i64 t.f2.f0) ∧ w'.cell? ⟨w.heap.size, 3, none⟩ = some (.int .i64 t.f2.f1) ∧ w'.cell? ⟨w.heap.size, 4, none⟩ = some (.int .i64 t.f2.f2) ∧ w'.cell? ⟨w.heap.size, 5, none⟩ = some (.int .i64 t.f3)) (fun j => !(Nat.beq j 11)) (by kernel_rfl) ?_
     rw [HW6.out]
     refine anyR_take (i := 0) (oi := ⟨some 62, .move (.tmp 0), 39, "parse.go:107", #[], none⟩) (v := ?_) rfl (by kernel_rfl) (fun _ _ _ h => h) (Or.inl ⟨by rfl, ?_⟩) HS6.out ?_
     rotate_left
     ·intro x h; (try dsimp only at h); go_simp; try (with_reducible rfl)
     try simp only [Act.put, List.setIfInBounds_toArray, List.set]
     refine anyR_take (i := 1) (oi := ⟨some 63, .move (.tmp 0), 39, "parse.go:107", #[], none⟩) (v := ?_) rfl (by kernel_rfl) (fun _ _ _ h => h) (Or.inl ⟨by rfl, ?_⟩) HS6.out ?_
     rotate_left
     ·intro x h; (try dsimp only at h); go_simp; try (with_reducible rfl)
     try simp only [Act.put, List.setIfInBounds_toArray, List.set]
     refine anyR_take (i := 2) (oi := ⟨some 64, .nilCheck (.tmp 63), 0, "parse.go:107", #[⟨1, .data⟩], none⟩) (v := ?_) rfl (by kernel_rfl) (fun _ _ _ h => h) (Or.inl ⟨by rfl, ?_⟩) HS6.out ?_
     rotate_left
     ·intro x h; (try dsimp only at h); go_simp; try (with_reducible rfl)
     try simp only [Act.put, List.setIfInBounds_toArray, List.set]
     refine anyR_take (i := 3) (oi := ⟨some 65, .fieldAddr 72 (.tmp 64) 1, 0, "parse.go:107", #[⟨2, .data⟩], none⟩) (v := ?_) rfl (by kernel_rfl) (fun _ _ _ h => h) (Or.inl ⟨by rfl, ?_⟩) HS6.out ?_
     rotate_left
     ·intro x h; (try dsimp only at h); go_simp; try (with_reducible rfl)
     try simp only [Act.put, List.setIfInBounds_toArray, List.set]
     refine anyR_take (i := 4) (oi := ⟨some 66, .load 41 (.tmp 65), 41, "parse.go:107", #[⟨3, .data⟩], none⟩) (v := ?_) rfl (by kernel_rfl) (fun _ _ _ h => h) (Or.inl ⟨by rfl, ?_⟩) HS6.out ?_
     rotate_left
     ·intro x h; (try dsimp only at h); go_simp; try (with_reducible rfl)
     try simp only [Act.put, List.setIfInBounds_toArray, List.set]
     refine anyR_take (i := 5) (oi := ⟨some 67, .load 28 (.tmp 3), 28, "parse.go:107", #[], none⟩) (v := ?_) rfl (by kernel_rfl) (fun _ _ _ h => h) (Or.inl ⟨by rfl, ?_⟩) HS6.out ?_
     rotate_left
     ·intro x h; (try dsimp only at h); go_simp; try (with_reducible rfl)
     try simp only [Act.put, List.setIfInBounds_toArray, List.set]
     refine anyR_take (i := 6) (oi := ⟨some 68, .build 48 #[(0, .const (.int .u8 4)), (2, .tmp 67)], 48, "parse.go:107", #[⟨5, .data⟩], none⟩) (v := ?_) rfl (by kernel_rfl) (fun _ _ _ h => h) (Or.inl ⟨by rfl, ?_⟩) HS6.out ?_
     rotate_left
     ·intro x h; (try dsimp only at h); go_simp; try (with_reducible rfl)
     try simp only [Act.put, List.setIfInBounds_toArray, List.set]
     refine anyR_ready (rs := [7]) (by kernel_rfl) (by simp) ?_
     refine ReadyR.cons (o := ⟨some 69, .buildSlice 41 1 #[(0, .tmp 68)], 41, "parse.go:107", #[⟨6, .data⟩], none⟩) rfl (fun K hK => ?_) ReadyR.nil
     go_simp
     refine hK.out _ _ (fun _ => HSA.out _ (HB6.out.alloc HB6.out.size _)) ?_
     clear hK K
     try simp only [Act.put, List.setIfInBounds_toArray, List.set]
     refine anyR_ready (rs := [8]) (by kernel_rfl) (by simp) ?_
     refine ReadyR.cons (o := ⟨some 70, .call { callee := .builtin .append, args := #[.tmp 66, .tmp 69], argTypes := #[41, 41] }, 41, "parse.go:107", #[⟨4, .data⟩, ⟨7, .data⟩], none⟩) rfl (fun K hK => ?_) ReadyR.nil
     refine step_ev (W := W6) rfl (.tmp 66) (.tmp 69) rfl p (u := .slice (some ⟨G1, 0, none⟩) (0 + 1) C1) (q := 1) (kc := ([evOf (1, 1)] : List Ev).flatMap evCells) (cs := [.int .u8 4, .int .u8 0, .int .u8 t.f0, .string t.f1, .int .i64 t.f2.f0, .int .i64 t.f2.f1, .int .i64 t.f2.f2, .int .i64 t.f3]) rfl rfl HP6.out.evs rfl (evCells_one (noteE t)) (Nat.le_of_lt (blk_lt HP6.out.box)) (by decide) ?_
     intro G9 C9 w6 ho hg hat
     obtain ⟨⟨cur6, hcur, hfit⟩, hnx⟩ := ev_next (e := noteE t) HP6.out ho hg hat
     have hpe : ((.slice (some ⟨G1, 0, none⟩) (0 + 1) C1 : Value)).ownBlock ≠ some p := fun e => by
      obtain ⟨cs, hc⟩ := own_typed HP6.out.evs p e
      rw [HP6.out.box] at hc; exact absurd (cells_ty hc) (by decide)
     have hpt : some w.heap.size ≠ ((.slice (some ⟨G1, 0, none⟩) (0 + 1) C1 : Value)).ownBlock := fun e => by
      obtain ⟨cs, hc⟩ := own_typed HP6.out.evs w.heap.size e.symm
      rw [HT6.out] at hc; exact absurd (cells_ty hc) (by decide)
     have hc1 := World.cell?_of_block (a := ⟨p, 1, none⟩) (hg.block p (blk_lt HP6.out.box) (fun e => hpe e.symm))
     have hbT := hg.block w.heap.size (blk_lt HT6.out) hpt
     have hS7 : w6.cell? ⟨p, 1, none⟩ = some (.slice (some ⟨G1, 0, none⟩) (0 + 1) C1) ∧ w6.cell? ⟨w.heap.size, 0, none⟩ = some (.int .u8 t.f0) ∧ w6.cell? ⟨w.heap.size, 1, none⟩ = some (.string t.f1) ∧ w6.cell? ⟨w.heap.size, 2, none⟩ = some (.int .i64 t.f2.f0) ∧ w6.cell? ⟨w.heap.size, 3, none⟩ = some (.int .i64 t.f2.f1) ∧ w6.cell? ⟨w.heap.size, 4, none⟩ = some (.int .i64 t.f2.f2) ∧ w6.cell? ⟨w.heap.size, 5, none⟩ = some (.int .i64 t.f3) := ⟨hc1.trans HS6.out.1, (World.cell?_of_block hbT).trans HS6.out.2.1, (World.cell?_of_block hbT).trans HS6.out.2.2.1, (World.cell?_of_block hbT).trans HS6.out.2.2.2.1, (World.cell?_of_block hbT).trans HS6.out.2.2.2.2.1, (World.cell?_of_block hbT).trans HS6.out.2.2.2.2.2.1, (World.cell?_of_block hbT).trans HS6.out.2.2.2.2.2.2⟩
     have HS7 := Lib.hid hS7
     have HCU := Lib.hid (And.intro hcur hfit)
     have HNX := Lib.hid hnx
     refine hK.out _ _ (fun _ => hS7) ?_
     clear hK K ho hg hat hpe hpt hc1 hbT hS7 hcur hfit hnx
     try simp only [Act.put, List.setIfInBounds_toArray, List.set]
     refine anyR_ready (rs := [9]) (by kernel_rfl) (by simp) ?_
     refine ReadyR.cons (o := ⟨some 71, .nilCheck (.tmp 62), 0, "parse.go:107", #[⟨0, .data⟩, ⟨0, .phase⟩, ⟨1, .phase⟩, ⟨2, .phase⟩, ⟨3, .phase⟩, ⟨4, .phase⟩, ⟨5, .phase⟩, ⟨6, .phase⟩, ⟨7, .phase⟩, ⟨8, .phase⟩], none⟩) rfl (fun K hK => ?_) ReadyR.nil
     go_simp
     refine hK.out _ _ (fun _ => HS7.out) ?_
     clear hK K
     try simp only [Act.put, List.setIfInBounds_toArray, List.set]
     refine anyR_ready (rs := [10]) (by kernel_rfl) (by simp) ?_
     refine ReadyR.cons (o := ⟨some 72, .fieldAddr 72 (.tmp 71) 1, 0, "parse.go:107", #[⟨9, .data⟩, ⟨0, .phase⟩, ⟨1, .phase⟩, ⟨2, .phase⟩, ⟨3, .phase⟩, ⟨4, .phase⟩, ⟨5, .phase⟩, ⟨6, .phase⟩, ⟨7, .phase⟩, ⟨8, .phase⟩], none⟩) rfl (fun K hK => ?_) ReadyR.nil
     go_simp
     refine hK.out _ _ (fun _ => HS7.out) ?_
     clear hK K
     try simp only [Act.put, List.setIfInBounds_toArray, List.set]
     refine anyR_ready (rs := [11]) (by kernel_rfl) (by simp) ?_
     refine ReadyR.cons (o := ⟨none, .store 41 (.tmp 72) (.tmp 70), 0, "parse.go:107", #[⟨10, .data⟩, ⟨8, .data⟩, ⟨8, .chain⟩, ⟨0, .phase⟩, ⟨1, .phase⟩, ⟨2, .phase⟩, ⟨3, .phase⟩, ⟨4, .phase⟩, ⟨5, .phase⟩, ⟨6, .phase⟩, ⟨7, .phase⟩, ⟨8, .phase⟩], none⟩) rfl (fun K hK => ?_) ReadyR.nil
     refine step_store rfl rfl 41 (.tmp 72) (.tmp 70) rfl (g := p) (off := 1) (.slice (some ⟨G9, 0, none⟩) (1 + 1) C9) [.slice (some ⟨G9, 0, none⟩) (1 + 1) C9] rfl rfl rfl (by kernel_rfl) (fun v hv => by rw [List.mem_singleton.1 hv]; rfl) HCU.out.1 HCU.out.2 ?_
     have HN7 := Lib.hid (HNX.out _ rfl)
     refine hK.out _ _ (fun h => by cases h) ?_
     clear hK K HNX HCU HS7
     generalize w6.setCells p 1 [.slice (some ⟨G9, 0, none⟩) (1 + 1) C9] = V7 at HN7 ⊢
     try simp only [Act.put, List.setIfInBounds_toArray, List.set]
     refine anyR_done (by kernel_rfl) ?_ _
     have HP7 : Hid (PAt V7 p todo ([evOf (1, 1)] ++ [noteE t]) (d + 1) false 0 false vt (.slice (some ⟨G9, 0, none⟩) (1 + 1) C9)) := Lib.hid HN7.out.1
     have HS7 := Lib.hid (HS3.out.trans ((PStep.below HB6.out).trans HN7.out.2))
     clear q0 q1 q2 q3 q4 q5 c0 c1 c2 c3 c4 c5 HN7
     obtain ⟨q0, q1, q2, q3, q4, q5⟩ := HP7.out.cell
     obtain ⟨c0, c1, c2, c3, c4, c5⟩ := six_cells (HS7.out.keep HP0.out HT0.out (by decide) (by decide) (by decide))
     go_wp2_with (((with_reducible refine gate_ (.store 4 (.tmp 94) (.const (.bool true))) rfl ?_); refine wl_cells rfl rfl _ _ _ rfl (g := p) (off := 3) (.bool true) [.bool true] rfl rfl rfl (by kernel_rfl) (fun v hv => by rw [List.mem_singleton.1 hv]; rfl) HP7.out.box (by simp) ?_; intro V8 hV; obtain ⟨hA, hS⟩ := HP7.out.upd 3 (.bool true) (by decide) (s' := todo) (es' := ([evOf (1, 1)] ++ [noteE t])) (d' := (d + 1)) (b' := true) (wr' := 0) (cl' := false) (vt' := vt) (ve' := .slice (some ⟨G9, 0, none⟩) (1 + 1) C9) rfl HP7.out.todo HP7.out.evs (fun _ h => h) (fun _ h => h); rw [← hV] at hA hS; have HP8 := Lib.hid hA; have HS8 := Lib.hid (HS7.out.trans hS); clear q0 q1 q2 q3 q4 q5 c0 c1 c2 c3 c4 c5 hV; obtain ⟨q0, q1, q2, q3, q4, q5⟩ := hA.cell; obtain ⟨c0, c1, c2, c3, c4, c5⟩ := six_cells (HS8.out.keep HP0.out HT0.out (by decide) (by decide) (by decide)); clear hA hS))
     go_ret2
     unfold PutPost
     rw [HPU.out]
     exact ⟨_, _, _, _, rfl, HP8.out, HS0.out.trans HS8.out, HP8.out.evs, .inl rfl⟩
    | false =>
     cases k8 with
     | true =>
      have hn : isNote t = true := by unfold isNote; rw [hk7, hk8]; rfl
      have hput : put ⟨todo, d, false, 0, false⟩ t = ([evOf (1, 1)] ++ [noteE t], 0, ⟨todo, (d + 1), true, 0, false⟩) := by unfold put preE preD; simp [hn]
      have HPU := Lib.hid hput
      clear hput hn
      go_upto_region 13 with (first
       | ((with_reducible refine gate_ (.store 41 (.tmp 31) (.const (.slice none 0 0))) rfl ?_); refine wl_cells rfl rfl _ _ _ rfl (g := p) (off := 1) (.slice none 0 0) [.slice none 0 0] rfl rfl rfl (by kernel_rfl) (fun v hv => by rw [List.mem_singleton.1 hv]; rfl) HP0.out.box (by simp) ?_; intro V1 hV; obtain ⟨hA, hS⟩ := HP0.out.upd 1 (.slice none 0 0) (by decide) (s' := todo) (es' := []) (d' := d) (b' := false) (wr' := 0) (cl' := false) (vt' := vt) (ve' := .slice none 0 0) rfl HP0.out.todo (nil_row _ _ _ _) (fun _ h => h) (fun _ h => by cases h); rw [← hV] at hA hS; have HP1 := Lib.hid hA; have HS1 := Lib.hid (HSR.out.trans hS); clear q0 q1 q2 q3 q4 q5 c0 c1 c2 c3 c4 c5 hV; obtain ⟨q0, q1, q2, q3, q4, q5⟩ := hA.cell; obtain ⟨c0, c1, c2, c3, c4, c5⟩ := six_cells (HS1.out.keep HP0.out HT0.out (by decide) (by decide) (by decide)); clear hA hS)
       | ((with_reducible refine gate_dst (N := 44) rfl ?_); refine wl_ev rfl (.tmp 41) (.tmp 43) rfl p (u := .slice none 0 0) (q := 0) (kc := []) (cs := [.int .u8 1, .int .u8 1, .int .u8 0, .string ⟨#[]⟩, .int .i64 0, .int .i64 0, .int .i64 0, .int .i64 0]) rfl rfl (nil_row _ _ _ _) rfl (evCells_one (evOf (1, 1))) (Nat.le_of_lt (blk_lt HP1.out.box)) (by decide) ?_; intro G1 C1 w1 ho hg hat; obtain ⟨⟨cur, hcur, hfit⟩, hnx⟩ := ev_next (e := evOf (1, 1)) HP1.out ho hg hat; have HCU := Lib.hid (And.intro hcur hfit); have HNX := Lib.hid hnx; clear ho hg hat hcur hfit hnx)
       | ((with_reducible refine gate_ (.store 41 (.tmp 46) (.tmp 44)) rfl ?_); refine wl_cells rfl rfl _ _ _ rfl (g := p) (off := 1) (.slice (some ⟨G1, 0, none⟩) (0 + 1) C1) [.slice (some ⟨G1, 0, none⟩) (0 + 1) C1] rfl rfl rfl (by kernel_rfl) (fun v hv => by rw [List.mem_singleton.1 hv]; rfl) HCU.out.1 HCU.out.2 ?_; intro V2 hV; obtain ⟨hA, hS⟩ := HNX.out V2 hV; have HP2 : Hid (PAt V2 p todo [evOf (1, 1)] d false 0 false vt (.slice (some ⟨G1, 0, none⟩) (0 + 1) C1)) := Lib.hid hA; have HS2 := Lib.hid (HS1.out.trans hS); clear q0 q1 q2 q3 q4 q5 c0 c1 c2 c3 c4 c5 hV HNX HCU; obtain ⟨q0, q1, q2, q3, q4, q5⟩ := hA.cell; obtain ⟨c0, c1, c2, c3, c4, c5⟩ := six_cells (HS2.out.keep HP0.out HT0.out (by decide) (by decide) (by decide)); clear hA hS)
       | ((with_reducible refine gate_ (.store 3 (.tmp 53) (.tmp 51)) rfl ?_); refine wl_cells rfl rfl _ _ _ rfl (g := p) (off := 2) (.int .i64 (d + 1)) [.int .i64 (d + 1)] rfl rfl rfl (by kernel_rfl) (fun v hv => by rw [List.mem_singleton.1 hv]; rfl) HP2.out.box (by simp) ?_; intro V3 hV; obtain ⟨hA, hS⟩ := HP2.out.upd 2 (.int .i64 (d + 1)) (by decide) (s' := todo) (es' := [evOf (1, 1)]) (d' := (d + 1)) (b' := false) (wr' := 0) (cl' := false) (vt' := vt) (ve' := .slice (some ⟨G1, 0, none⟩) (0 + 1) C1) rfl HP2.out.todo HP2.out.evs (fun _ h => h) (fun _ h => h); rw [← hV] at hA hS; have HP3 := Lib.hid hA; have HS3 := Lib.hid (HS2.out.trans hS); clear q0 q1 q2 q3 q4 q5 c0 c1 c2 c3 c4 c5 hV; obtain ⟨q0, q1, q2, q3, q4, q5⟩ := hA.cell; obtain ⟨c0, c1, c2, c3, c4, c5⟩ := six_cells (HS3.out.keep HP0.out HT0.out (by decide) (by decide) (by decide)); clear hA hS))
      obtain ⟨W6, hW6⟩ : ∃ V, V3.drew = V := ⟨_, rfl⟩
      have hb6 : Below V3.heap.size V3 W6 := by rw [← hW6]; exact (Below.refl _ V3).drew
      have hS6 : ∀ V, Below V3.heap.size V3 V → V.cell? ⟨p, 1, none⟩ = some (.slice (some ⟨G1, 0, none⟩) (0 + 1) C1) ∧ V.cell? ⟨w.heap.size, 0, none⟩ = some (.int .u8 t.f0) ∧ V.cell? ⟨w.heap.size, 1, none⟩ = some (.string t.f1) ∧ V.cell? ⟨w.heap.size, 2, none⟩ = some (.int .i64 t.f2.f0) ∧ V.cell? ⟨w.heap.size, 3, none⟩ = some (.int .i64 t.f2.f1) ∧ V.cell? ⟨w.heap.size, 4, none⟩ = some (.int .i64 t.f2.f2) ∧ V.cell? ⟨w.heap.size, 5, none⟩ = some (.int .i64 t.f3) := fun V hV => ⟨pw_cell_below hV q1, pw_cell_below hV c0, pw_cell_below hV c1, pw_cell_below hV c2, pw_cell_below hV c3, pw_cell_below hV c4, pw_cell_below hV c5⟩
      have HSA := Lib.hid hS6
      have HS6 := Lib.hid (hS6 W6 hb6)
      have HB6 := Lib.hid hb6
      have HW6 := Lib.hid hW6
      have HP6 := Lib.hid (HP3.out.below hb6)
      have HT6 := Lib.hid ((HS3.out.trans (PStep.below hb6)).keep HP0.out HT0.out (by decide) (by decide) (by decide))
      clear hS6 hb6 hW6
      refine wp_region_R (fun w' => w'.cell? ⟨p, 1, none⟩ = some (.slice (some ⟨G1, 0, none⟩) (0 + 1) C1) ∧ w'.cell? ⟨w.heap.size, 0, none⟩ = some (.int .u8 t.f0) ∧ w'.cell? ⟨w.heap.size, 1, none⟩ = some (.string t.f1) ∧ w'.cell? ⟨w.heap.size, 2, none⟩ = some (.int .i64 t.f2.f0) ∧ w'.cell? ⟨w.heap.size, 3, none⟩ = some (.int .i64 t.f2.f1) ∧ w'.cell? ⟨w.heap.size, 4, none⟩ = some (.int .i64 t.f2.f2) ∧ w'.cell? ⟨w.heap.size, 5, none⟩ = some (.int .i64 t.f3)) (fun j => !(Nat.beq j 11)) (by kernel_rfl) ?_
      rw [HW6.out]
      refine anyR_take (i := 0) (oi := ⟨some 62, .move (.tmp 0), 39, "parse.go:107", #[], none⟩) (v := ?_) rfl (by kernel_rfl) (fun _ _ _ h => h) (Or.inl ⟨by rfl, ?_⟩) HS6.out ?_
      rotate_left
      ·intro x h; (try dsimp only at h); go_simp; try (with_reducible rfl)
      try simp only [Act.put, List.setIfInBounds_toArray, List.set]
      refine anyR_take (i := 1) (oi := ⟨some 63, .move (.tmp 0), 39, "parse.go:107", #[], none⟩) (v := ?_) rfl (by kernel_rfl) (fun _ _ _ h => h) (Or.inl ⟨by rfl, ?_⟩) HS6.out ?_
      rotate_left
      ·intro x h; (try dsimp only at h); go_simp; try (with_reducible rfl)
      try simp only [Act.put, List.setIfInBounds_toArray, List.set]
      refine anyR_take (i := 2) (oi := ⟨some 64, .nilCheck (.tmp 63), 0, "parse.go:107", #[⟨1, .data⟩], none⟩) (v := ?_) rfl (by kernel_rfl) (fun _ _ _ h => h) (Or.inl ⟨by rfl, ?_⟩) HS6.out ?_
      rotate_left
      ·intro x h; (try dsimp only at h); go_simp; try (with_reducible rfl)
      try simp only [Act.put, List.setIfInBounds_toArray, List.set]
      refine anyR_take (i := 3) (oi := ⟨some 65, .fieldAddr 72 (.tmp 64) 1, 0, "parse.go:107", #[⟨2, .data⟩], none⟩) (v := ?_) rfl (by kernel_rfl) (fun _ _ _ h => h) (Or.inl ⟨by rfl, ?_⟩) HS6.out ?_
      rotate_left
      ·intro x h; (try dsimp only at h); go_simp; try (with_reducible rfl)
      try simp only [Act.put, List.setIfInBounds_toArray, List.set]
      refine anyR_take (i := 4) (oi := ⟨some 66, .load 41 (.tmp 65), 41, "parse.go:107", #[⟨3, .data⟩], none⟩) (v := ?_) rfl (by kernel_rfl) (fun _ _ _ h => h) (Or.inl ⟨by rfl, ?_⟩) HS6.out ?_
      rotate_left
      ·intro x h; (try dsimp only at h); go_simp; try (with_reducible rfl)
      try simp only [Act.put, List.setIfInBounds_toArray, List.set]
      refine anyR_take (i := 5) (oi := ⟨some 67, .load 28 (.tmp 3), 28, "parse.go:107", #[], none⟩) (v := ?_) rfl (by kernel_rfl) (fun _ _ _ h => h) (Or.inl ⟨by rfl, ?_⟩) HS6.out ?_
      rotate_left
      ·intro x h; (try dsimp only at h); go_simp; try (with_reducible rfl)
      try simp only [Act.put, List.setIfInBounds_toArray, List.set]
      refine anyR_take (i := 6) (oi := ⟨some 68, .build 48 #[(0, .const (.int .u8 4)), (2, .tmp 67)], 48, "parse.go:107", #[⟨5, .data⟩], none⟩) (v := ?_) rfl (by kernel_rfl) (fun _ _ _ h => h) (Or.inl ⟨by rfl, ?_⟩) HS6.out ?_
      rotate_left
      ·intro x h; (try dsimp only at h); go_simp; try (with_reducible rfl)
      try simp only [Act.put, List.setIfInBounds_toArray, List.set]
      refine anyR_ready (rs := [7]) (by kernel_rfl) (by simp) ?_
      refine ReadyR.cons (o := ⟨some 69, .buildSlice 41 1 #[(0, .tmp 68)], 41, "parse.go:107", #[⟨6, .data⟩], none⟩) rfl (fun K hK => ?_) ReadyR.nil
      go_simp
      refine hK.out _ _ (fun _ => HSA.out _ (HB6.out.alloc HB6.out.size _)) ?_
      clear hK K
      try simp only [Act.put, List.setIfInBounds_toArray, List.set]
      refine anyR_ready (rs := [8]) (by kernel_rfl) (by simp) ?_
      refine ReadyR.cons (o := ⟨some 70, .call { callee := .builtin .append, args := #[.tmp 66, .tmp 69], argTypes := #[41, 41] }, 41, "parse.go:107", #[⟨4, .data⟩, ⟨7, .data⟩], none⟩) rfl (fun K hK => ?_) ReadyR.nil
      refine step_ev (W := W6) rfl (.tmp 66) (.tmp 69) rfl p (u := .slice (some ⟨G1, 0, none⟩) (0 + 1) C1) (q := 1) (kc := ([evOf (1, 1)] : List Ev).flatMap evCells) (cs := [.int .u8 4, .int .u8 0, .int .u8 t.f0, .string t.f1, .int .i64 t.f2.f0, .int .i64 t.f2.f1, .int .i64 t.f2.f2, .int .i64 t.f3]) rfl rfl HP6.out.evs rfl (evCells_one (noteE t)) (Nat.le_of_lt (blk_lt HP6.out.box)) (by decide) ?_
      intro G9 C9 w6 ho hg hat
      obtain ⟨⟨cur6, hcur, hfit⟩, hnx⟩ := ev_next (e := noteE t) HP6.out ho hg hat
      have hpe : ((.slice (some ⟨G1, 0, none⟩) (0 + 1) C1 : Value)).ownBlock ≠ some p := fun e => by
       obtain ⟨cs, hc⟩ := own_typed HP6.out.evs p e
       rw [HP6.out.box] at hc; exact absurd (cells_ty hc) (by decide)
      have hpt : some w.heap.size ≠ ((.slice (some ⟨G1, 0, none⟩) (0 + 1) C1 : Value)).ownBlock := fun e => by
       obtain ⟨cs, hc⟩ := own_typed HP6.out.evs w.heap.size e.symm
       rw [HT6.out] at hc; exact absurd (cells_ty hc) (by decide)
      have hc1 := World.cell?_of_block (a := ⟨p, 1, none⟩) (hg.block p (blk_lt HP6.out.box) (fun e => hpe e.symm))
      have hbT := hg.block w.heap.size (blk_lt HT6.out) hpt
      have hS7 : w6.cell? ⟨p, 1, none⟩ = some (.slice (some ⟨G1, 0, none⟩) (0 + 1) C1) ∧ w6.cell? ⟨w.heap.size, 0, none⟩ = some (.int .u8 t.f0) ∧ w6.cell? ⟨w.heap.size, 1, none⟩ = some (.string t.f1) ∧ w6.cell? ⟨w.heap.size, 2, none⟩ = some (.int .i64 t.f2.f0) ∧ w6.cell? ⟨w.heap.size, 3, none⟩ = some (.int .i64 t.f2.f1) ∧ w6.cell? ⟨w.heap.size, 4, none⟩ = some (.int .i64 t.f2.f2) ∧ w6.cell? ⟨w.heap.size, 5, none⟩ = some (.int .i64 t.f3) := ⟨hc1.trans HS6.out.1, (World.cell?_of_block hbT).trans HS6.out.2.1, (World.cell?_of_block hbT).trans HS6.out.2.2.1, (World.cell?_of_block hbT).trans HS6.out.2.2.2.1, (World.cell?_of_block hbT).trans HS6.out.2.2.2.2.1, (World.cell?_of_block hbT).trans HS6.out.2.2.2.2.2.1, (World.cell?_of_block hbT).trans HS6.out.2.2.2.2.2.2⟩
      have HS7 := Lib.hid hS7
      have HCU := Lib.hid (And.intro hcur hfit)
      have HNX := Lib.hid hnx
      refine hK.out _ _ (fun _ => hS7) ?_
      clear hK K ho hg hat hpe hpt hc1 hbT hS7 hcur hfit hnx
      try simp only [Act.put, List.setIfInBounds_toArray, List.set]
      refine anyR_ready (rs := [9]) (by kernel_rfl) (by simp) ?_
      refine ReadyR.cons (o := ⟨some 71, .nilCheck (.tmp 62), 0, "parse.go:107", #[⟨0, .data⟩, ⟨0, .phase⟩, ⟨1, .phase⟩, ⟨2, .phase⟩, ⟨3, .phase⟩, ⟨4, .phase⟩, ⟨5, .phase⟩, ⟨6, .phase⟩, ⟨7, .phase⟩, ⟨8, .phase⟩], none⟩) rfl (fun K hK => ?_) ReadyR.nil
      go_simp
      refine hK.out _ _ (fun _ => HS7.out) ?_
      clear hK K
      try simp only [Act.put, List.setIfInBounds_toArray, List.set]
      refine anyR_ready (rs := [10]) (by kernel_rfl) (by simp) ?_
      refine ReadyR.cons (o := ⟨some 72, .fieldAddr 72 (.tmp 71) 1, 0, "parse.go:107", #[⟨9, .data⟩, ⟨0, .phase⟩, ⟨1, .phase⟩, ⟨2, .phase⟩, ⟨3, .phase⟩, ⟨4, .phase⟩, ⟨5, .phase⟩, ⟨6, .phase⟩, ⟨7, .phase⟩, ⟨8, .phase⟩], none⟩) rfl (fun K hK => ?_) ReadyR.nil
      go_simp
      refine hK.out _ _ (fun _ => HS7.out) ?_
      clear hK K
      try simp only [Act.put, List.setIfInBounds_toArray, List.set]
      refine anyR_ready (rs := [11]) (by kernel_rfl) (by simp) ?_
      refine ReadyR.cons (o := ⟨none, .store 41 (.tmp 72) (.tmp 70), 0, "parse.go:107", #[⟨10, .data⟩, ⟨8, .data⟩, ⟨8, .chain⟩, ⟨0, .phase⟩, ⟨1, .phase⟩, ⟨2, .phase⟩, ⟨3, .phase⟩, ⟨4, .phase⟩, ⟨5, .phase⟩, ⟨6, .phase⟩, ⟨7, .phase⟩, ⟨8, .phase⟩], none⟩) rfl (fun K hK => ?_) ReadyR.nil
      refine step_store rfl rfl 41 (.tmp 72) (.tmp 70) rfl (g := p) (off := 1) (.slice (some ⟨G9, 0, none⟩) (1 + 1) C9) [.slice (some ⟨G9, 0, none⟩) (1 + 1) C9] rfl rfl rfl (by kernel_rfl) (fun v hv => by rw [List.mem_singleton.1 hv]; rfl) HCU.out.1 HCU.out.2 ?_
      have HN7 := Lib.hid (HNX.out _ rfl)
      refine hK.out _ _ (fun h => by cases h) ?_
      clear hK K HNX HCU HS7
      generalize w6.setCells p 1 [.slice (some ⟨G9, 0, none⟩) (1 + 1) C9] = V7 at HN7 ⊢
      try simp only [Act.put, List.setIfInBounds_toArray, List.set]
      refine anyR_done (by kernel_rfl) ?_ _
      have HP7 : Hid (PAt V7 p todo ([evOf (1, 1)] ++ [noteE t]) (d + 1) false 0 false vt (.slice (some ⟨G9, 0, none⟩) (1 + 1) C9)) := Lib.hid HN7.out.1
      have HS7 := Lib.hid (HS3.out.trans ((PStep.below HB6.out).trans HN7.out.2))
      clear q0 q1 q2 q3 q4 q5 c0 c1 c2 c3 c4 c5 HN7
      obtain ⟨q0, q1, q2, q3, q4, q5⟩ := HP7.out.cell
      obtain ⟨c0, c1, c2, c3, c4, c5⟩ := six_cells (HS7.out.keep HP0.out HT0.out (by decide) (by decide) (by decide))
      go_wp2_with (((with_reducible refine gate_ (.store 4 (.tmp 94) (.const (.bool true))) rfl ?_); refine wl_cells rfl rfl _ _ _ rfl (g := p) (off := 3) (.bool true) [.bool true] rfl rfl rfl (by kernel_rfl) (fun v hv => by rw [List.mem_singleton.1 hv]; rfl) HP7.out.box (by simp) ?_; intro V8 hV; obtain ⟨hA, hS⟩ := HP7.out.upd 3 (.bool true) (by decide) (s' := todo) (es' := ([evOf (1, 1)] ++ [noteE t])) (d' := (d + 1)) (b' := true) (wr' := 0) (cl' := false) (vt' := vt) (ve' := .slice (some ⟨G9, 0, none⟩) (1 + 1) C9) rfl HP7.out.todo HP7.out.evs (fun _ h => h) (fun _ h => h); rw [← hV] at hA hS; have HP8 := Lib.hid hA; have HS8 := Lib.hid (HS7.out.trans hS); clear q0 q1 q2 q3 q4 q5 c0 c1 c2 c3 c4 c5 hV; obtain ⟨q0, q1, q2, q3, q4, q5⟩ := hA.cell; obtain ⟨c0, c1, c2, c3, c4, c5⟩ := six_cells (HS8.out.keep HP0.out HT0.out (by decide) (by decide) (by decide)); clear hA hS))
      go_ret2
      unfold PutPost
      rw [HPU.out]
      exact ⟨_, _, _, _, rfl, HP8.out, HS0.out.trans HS8.out, HP8.out.evs, .inl rfl⟩
     | false =>
      obtain ⟨⟨te, ts⟩, htr⟩ : ∃ tr, token t todo (d + 1) = tr := ⟨_, rfl⟩
      have HTR := Lib.hid htr
      clear htr
      by_cases hte : te = 0
      ·subst hte
       have hn : isNote t = false := by unfold isNote; rw [hk7, hk8]; rfl
       have hput : put ⟨todo, d, false, 0, false⟩ t = ([evOf (1, 1)] ++ ts.evs.map evOf ++ [leafE t], 0, ⟨ts.todo, ts.depth, true, 0, false⟩) := by unfold put preE preD; simp [hn, HTR.out]
       have HPU := Lib.hid hput
       clear hput hn
       go_wp2_with (first
        | ((with_reducible refine gate_ (.store 41 (.tmp 31) (.const (.slice none 0 0))) rfl ?_); refine wl_cells rfl rfl _ _ _ rfl (g := p) (off := 1) (.slice none 0 0) [.slice none 0 0] rfl rfl rfl (by kernel_rfl) (fun v hv => by rw [List.mem_singleton.1 hv]; rfl) HP0.out.box (by simp) ?_; intro V1 hV; obtain ⟨hA, hS⟩ := HP0.out.upd 1 (.slice none 0 0) (by decide) (s' := todo) (es' := []) (d' := d) (b' := false) (wr' := 0) (cl' := false) (vt' := vt) (ve' := .slice none 0 0) rfl HP0.out.todo (nil_row _ _ _ _) (fun _ h => h) (fun _ h => by cases h); rw [← hV] at hA hS; have HP1 := Lib.hid hA; have HS1 := Lib.hid (HSR.out.trans hS); clear q0 q1 q2 q3 q4 q5 c0 c1 c2 c3 c4 c5 hV; obtain ⟨q0, q1, q2, q3, q4, q5⟩ := hA.cell; obtain ⟨c0, c1, c2, c3, c4, c5⟩ := six_cells (HS1.out.keep HP0.out HT0.out (by decide) (by decide) (by decide)); clear hA hS)
        | ((with_reducible refine gate_dst (N := 44) rfl ?_); refine wl_ev rfl (.tmp 41) (.tmp 43) rfl p (u := .slice none 0 0) (q := 0) (kc := []) (cs := [.int .u8 1, .int .u8 1, .int .u8 0, .string ⟨#[]⟩, .int .i64 0, .int .i64 0, .int .i64 0, .int .i64 0]) rfl rfl (nil_row _ _ _ _) rfl (evCells_one (evOf (1, 1))) (Nat.le_of_lt (blk_lt HP1.out.box)) (by decide) ?_; intro G1 C1 w1 ho hg hat; obtain ⟨⟨cur, hcur, hfit⟩, hnx⟩ := ev_next (e := evOf (1, 1)) HP1.out ho hg hat; have HCU := Lib.hid (And.intro hcur hfit); have HNX := Lib.hid hnx; clear ho hg hat hcur hfit hnx)
        | ((with_reducible refine gate_ (.store 41 (.tmp 46) (.tmp 44)) rfl ?_); refine wl_cells rfl rfl _ _ _ rfl (g := p) (off := 1) (.slice (some ⟨G1, 0, none⟩) (0 + 1) C1) [.slice (some ⟨G1, 0, none⟩) (0 + 1) C1] rfl rfl rfl (by kernel_rfl) (fun v hv => by rw [List.mem_singleton.1 hv]; rfl) HCU.out.1 HCU.out.2 ?_; intro V2 hV; obtain ⟨hA, hS⟩ := HNX.out V2 hV; have HP2 : Hid (PAt V2 p todo [evOf (1, 1)] d false 0 false vt (.slice (some ⟨G1, 0, none⟩) (0 + 1) C1)) := Lib.hid hA; have HS2 := Lib.hid (HS1.out.trans hS); clear q0 q1 q2 q3 q4 q5 c0 c1 c2 c3 c4 c5 hV HNX HCU; obtain ⟨q0, q1, q2, q3, q4, q5⟩ := hA.cell; obtain ⟨c0, c1, c2, c3, c4, c5⟩ := six_cells (HS2.out.keep HP0.out HT0.out (by decide) (by decide) (by decide)); clear hA hS)
        | ((with_reducible refine gate_ (.store 3 (.tmp 53) (.tmp 51)) rfl ?_); refine wl_cells rfl rfl _ _ _ rfl (g := p) (off := 2) (.int .i64 (d + 1)) [.int .i64 (d + 1)] rfl rfl rfl (by kernel_rfl) (fun v hv => by rw [List.mem_singleton.1 hv]; rfl) HP2.out.box (by simp) ?_; intro V3 hV; obtain ⟨hA, hS⟩ := HP2.out.upd 2 (.int .i64 (d + 1)) (by decide) (s' := todo) (es' := [evOf (1, 1)]) (d' := (d + 1)) (b' := false) (wr' := 0) (cl' := false) (vt' := vt) (ve' := .slice (some ⟨G1, 0, none⟩) (0 + 1) C1) rfl HP2.out.todo HP2.out.evs (fun _ h => h) (fun _ h => h); rw [← hV] at hA hS; have HP3 := Lib.hid hA; have HS3 := Lib.hid (HS2.out.trans hS); clear q0 q1 q2 q3 q4 q5 c0 c1 c2 c3 c4 c5 hV; obtain ⟨q0, q1, q2, q3, q4, q5⟩ := hA.cell; obtain ⟨c0, c1, c2, c3, c4, c5⟩ := six_cells (HS3.out.keep HP0.out HT0.out (by decide) (by decide) (by decide)); clear hA hS)
        | (go_at_call 29; have htk := token_any p todo [evOf (1, 1)] (d + 1) false 0 false vt (.slice (some ⟨G1, 0, none⟩) (0 + 1) C1) t V3 HP3.out (by have := HIN.out; dsimp only at this; omega) (by decide) (by have := HIN.out; dsimp only at this; omega) HIN.out.1; unfold TokPost at htk; rw [HTR.out] at htk; dsimp only at htk; rw [if_pos rfl] at htk; (with_reducible refine Calls.mono htk ?_); rintro e W5 ⟨rfl, vt5, ve5, hP5, hs5⟩; have HP5 := Lib.hid hP5; have HS5 := Lib.hid (HS3.out.trans hs5); clear q0 q1 q2 q3 q4 q5 c0 c1 c2 c3 c4 c5 htk hs5; obtain ⟨q0, q1, q2, q3, q4, q5⟩ := hP5.cell; obtain ⟨c0, c1, c2, c3, c4, c5⟩ := six_cells (HS5.out.keep HP0.out HT0.out (by decide) (by decide) (by decide)); clear hP5)
        | ((with_reducible refine gate_ (.store 33 (.tmp 78) (.tmp 76)) rfl ?_); refine wl_cells rfl rfl _ _ _ rfl (g := p) (off := 4) (.int .i64 0) [.int .i64 0] rfl rfl rfl (by kernel_rfl) (fun v hv => by rw [List.mem_singleton.1 hv]; rfl) HP5.out.box (by simp) ?_; intro V6 hV; obtain ⟨hA, hS⟩ := HP5.out.upd 4 (.int .i64 0) (by decide) (s' := ts.todo) (es' := ([evOf (1, 1)] ++ ts.evs.map evOf ++ [leafE t])) (d' := ts.depth) (b' := false) (wr' := 0) (cl' := false) (vt' := vt5) (ve' := ve5) rfl HP5.out.todo HP5.out.evs (fun _ h => h) (fun _ h => h); rw [← hV] at hA hS; have HP6 := Lib.hid hA; have HS6 := Lib.hid (HS5.out.trans hS); clear q0 q1 q2 q3 q4 q5 c0 c1 c2 c3 c4 c5 hV; obtain ⟨q0, q1, q2, q3, q4, q5⟩ := hA.cell; obtain ⟨c0, c1, c2, c3, c4, c5⟩ := six_cells (HS6.out.keep HP0.out HT0.out (by decide) (by decide) (by decide)); clear hA hS)
        | ((with_reducible refine gate_ (.store 4 (.tmp 94) (.const (.bool true))) rfl ?_); refine wl_cells rfl rfl _ _ _ rfl (g := p) (off := 3) (.bool true) [.bool true] rfl rfl rfl (by kernel_rfl) (fun v hv => by rw [List.mem_singleton.1 hv]; rfl) HP6.out.box (by simp) ?_; intro V7 hV; obtain ⟨hA, hS⟩ := HP6.out.upd 3 (.bool true) (by decide) (s' := ts.todo) (es' := ([evOf (1, 1)] ++ ts.evs.map evOf ++ [leafE t])) (d' := ts.depth) (b' := true) (wr' := 0) (cl' := false) (vt' := vt5) (ve' := ve5) rfl HP6.out.todo HP6.out.evs (fun _ h => h) (fun _ h => h); rw [← hV] at hA hS; have HP7 := Lib.hid hA; have HS7 := Lib.hid (HS6.out.trans hS); clear q0 q1 q2 q3 q4 q5 c0 c1 c2 c3 c4 c5 hV; obtain ⟨q0, q1, q2, q3, q4, q5⟩ := hA.cell; obtain ⟨c0, c1, c2, c3, c4, c5⟩ := six_cells (HS7.out.keep HP0.out HT0.out (by decide) (by decide) (by decide)); clear hA hS))
       go_ret2
       unfold PutPost
       rw [HPU.out]
       exact ⟨_, _, _, _, rfl, HP7.out, HS0.out.trans HS7.out, HP7.out.evs, .inl rfl⟩
      ·skip
       have hn : isNote t = false := by unfold isNote; rw [hk7, hk8]; rfl
       have hput : put ⟨todo, d, false, 0, false⟩ t = ([], te, ⟨ts.todo, d, false, te, false⟩) := by unfold put preE preD; simp [hn, HTR.out, hte]
       have HPU := Lib.hid hput
       clear hput hn
       have HTE := Lib.hid hte
       have e9 : (te != 0) = true := by rw [bne_iff_ne]; exact hte
       clear hte
       go_upto_region 17 with (first
        | ((with_reducible refine gate_ (.store 41 (.tmp 31) (.const (.slice none 0 0))) rfl ?_); refine wl_cells rfl rfl _ _ _ rfl (g := p) (off := 1) (.slice none 0 0) [.slice none 0 0] rfl rfl rfl (by kernel_rfl) (fun v hv => by rw [List.mem_singleton.1 hv]; rfl) HP0.out.box (by simp) ?_; intro V1 hV; obtain ⟨hA, hS⟩ := HP0.out.upd 1 (.slice none 0 0) (by decide) (s' := todo) (es' := []) (d' := d) (b' := false) (wr' := 0) (cl' := false) (vt' := vt) (ve' := .slice none 0 0) rfl HP0.out.todo (nil_row _ _ _ _) (fun _ h => h) (fun _ h => by cases h); rw [← hV] at hA hS; have HP1 := Lib.hid hA; have HS1 := Lib.hid (HSR.out.trans hS); clear q0 q1 q2 q3 q4 q5 c0 c1 c2 c3 c4 c5 hV; obtain ⟨q0, q1, q2, q3, q4, q5⟩ := hA.cell; obtain ⟨c0, c1, c2, c3, c4, c5⟩ := six_cells (HS1.out.keep HP0.out HT0.out (by decide) (by decide) (by decide)); clear hA hS)
        | ((with_reducible refine gate_dst (N := 44) rfl ?_); refine wl_ev rfl (.tmp 41) (.tmp 43) rfl p (u := .slice none 0 0) (q := 0) (kc := []) (cs := [.int .u8 1, .int .u8 1, .int .u8 0, .string ⟨#[]⟩, .int .i64 0, .int .i64 0, .int .i64 0, .int .i64 0]) rfl rfl (nil_row _ _ _ _) rfl (evCells_one (evOf (1, 1))) (Nat.le_of_lt (blk_lt HP1.out.box)) (by decide) ?_; intro G1 C1 w1 ho hg hat; obtain ⟨⟨cur, hcur, hfit⟩, hnx⟩ := ev_next (e := evOf (1, 1)) HP1.out ho hg hat; have HCU := Lib.hid (And.intro hcur hfit); have HNX := Lib.hid hnx; clear ho hg hat hcur hfit hnx)
        | ((with_reducible refine gate_ (.store 41 (.tmp 46) (.tmp 44)) rfl ?_); refine wl_cells rfl rfl _ _ _ rfl (g := p) (off := 1) (.slice (some ⟨G1, 0, none⟩) (0 + 1) C1) [.slice (some ⟨G1, 0, none⟩) (0 + 1) C1] rfl rfl rfl (by kernel_rfl) (fun v hv => by rw [List.mem_singleton.1 hv]; rfl) HCU.out.1 HCU.out.2 ?_; intro V2 hV; obtain ⟨hA, hS⟩ := HNX.out V2 hV; have HP2 : Hid (PAt V2 p todo [evOf (1, 1)] d false 0 false vt (.slice (some ⟨G1, 0, none⟩) (0 + 1) C1)) := Lib.hid hA; have HS2 := Lib.hid (HS1.out.trans hS); clear q0 q1 q2 q3 q4 q5 c0 c1 c2 c3 c4 c5 hV HNX HCU; obtain ⟨q0, q1, q2, q3, q4, q5⟩ := hA.cell; obtain ⟨c0, c1, c2, c3, c4, c5⟩ := six_cells (HS2.out.keep HP0.out HT0.out (by decide) (by decide) (by decide)); clear hA hS)
        | ((with_reducible refine gate_ (.store 3 (.tmp 53) (.tmp 51)) rfl ?_); refine wl_cells rfl rfl _ _ _ rfl (g := p) (off := 2) (.int .i64 (d + 1)) [.int .i64 (d + 1)] rfl rfl rfl (by kernel_rfl) (fun v hv => by rw [List.mem_singleton.1 hv]; rfl) HP2.out.box (by simp) ?_; intro V3 hV; obtain ⟨hA, hS⟩ := HP2.out.upd 2 (.int .i64 (d + 1)) (by decide) (s' := todo) (es' := [evOf (1, 1)]) (d' := (d + 1)) (b' := false) (wr' := 0) (cl' := false) (vt' := vt) (ve' := .slice (some ⟨G1, 0, none⟩) (0 + 1) C1) rfl HP2.out.todo HP2.out.evs (fun _ h => h) (fun _ h => h); rw [← hV] at hA hS; have HP3 := Lib.hid hA; have HS3 := Lib.hid (HS2.out.trans hS); clear q0 q1 q2 q3 q4 q5 c0 c1 c2 c3 c4 c5 hV; obtain ⟨q0, q1, q2, q3, q4, q5⟩ := hA.cell; obtain ⟨c0, c1, c2, c3, c4, c5⟩ := six_cells (HS3.out.keep HP0.out HT0.out (by decide) (by decide) (by decide)); clear hA hS)
        | (go_at_call 29; have htk := token_any p todo [evOf (1, 1)] (d + 1) false 0 false vt (.slice (some ⟨G1, 0, none⟩) (0 + 1) C1) t V3 HP3.out (by have := HIN.out; dsimp only at this; omega) (by decide) (by have := HIN.out; dsimp only at this; omega) HIN.out.1; unfold TokPost at htk; rw [HTR.out] at htk; dsimp only at htk; rw [if_neg HTE.out] at htk; (with_reducible refine Calls.mono htk ?_); rintro e W5 ⟨rfl, vt5, ve5, hP5, hs5⟩; have HP5 := Lib.hid hP5; have HS5 := Lib.hid (HS3.out.trans hs5); clear q0 q1 q2 q3 q4 q5 c0 c1 c2 c3 c4 c5 htk hs5; obtain ⟨q0, q1, q2, q3, q4, q5⟩ := hP5.cell; obtain ⟨c0, c1, c2, c3, c4, c5⟩ := six_cells (HS5.out.keep HP0.out HT0.out (by decide) (by decide) (by decide)); clear hP5)
        | ((with_reducible refine gate_ (.store 33 (.tmp 78) (.tmp 76)) rfl ?_); refine wl_cells rfl rfl _ _ _ rfl (g := p) (off := 4) (.int .i64 te) [.int .i64 te] rfl rfl rfl (by kernel_rfl) (fun v hv => by rw [List.mem_singleton.1 hv]; rfl) HP5.out.box (by simp) ?_; intro V6 hV; obtain ⟨hA, hS⟩ := HP5.out.upd 4 (.int .i64 te) (by decide) (s' := ts.todo) (es' := ([evOf (1, 1)] ++ ts.evs.map evOf ++ [])) (d' := ts.depth) (b' := false) (wr' := te) (cl' := false) (vt' := vt5) (ve' := ve5) rfl HP5.out.todo HP5.out.evs (fun _ h => h) (fun _ h => h); rw [← hV] at hA hS; have HP6 := Lib.hid hA; have HS6 := Lib.hid (HS5.out.trans hS); clear q0 q1 q2 q3 q4 q5 c0 c1 c2 c3 c4 c5 hV; obtain ⟨q0, q1, q2, q3, q4, q5⟩ := hA.cell; obtain ⟨c0, c1, c2, c3, c4, c5⟩ := six_cells (HS6.out.keep HP0.out HT0.out (by decide) (by decide) (by decide)); clear hA hS)
        | ((with_reducible refine gate_ (.store 3 (.tmp 87) (.tmp 85)) rfl ?_); refine wl_cells rfl rfl _ _ _ rfl (g := p) (off := 2) (.int .i64 d) [.int .i64 d] rfl rfl rfl (by kernel_rfl) (fun v hv => by rw [List.mem_singleton.1 hv]; rfl) HP6.out.box (by simp) ?_; intro V7 hV; obtain ⟨hA, hS⟩ := HP6.out.upd 2 (.int .i64 d) (by decide) (s' := ts.todo) (es' := ([evOf (1, 1)] ++ ts.evs.map evOf ++ [])) (d' := d) (b' := false) (wr' := te) (cl' := false) (vt' := vt5) (ve' := ve5) rfl HP6.out.todo HP6.out.evs (fun _ h => h) (fun _ h => h); rw [← hV] at hA hS; have HP7 := Lib.hid hA; have HS7 := Lib.hid (HS6.out.trans hS); clear q0 q1 q2 q3 q4 q5 c0 c1 c2 c3 c4 c5 hV; obtain ⟨q0, q1, q2, q3, q4, q5⟩ := hA.cell; obtain ⟨c0, c1, c2, c3, c4, c5⟩ := six_cells (HS7.out.keep HP0.out HT0.out (by decide) (by decide) (by decide)); clear hA hS))
       go_region
       go_wp2
       go_ret2
       unfold PutPost
       rw [HPU.out]
       exact ⟨_, _, _, _, rfl, HP7.out.below (below_drew _), HS0.out.trans (HS7.out.trans (PStep.below (below_drew _))), nil_row _ _ _ _, .inr rfl⟩
  ·have e0 : (wr != 0) = true := by rw [bne_iff_ne]; exact hwr
   have hput : put ⟨todo, d, b, wr, false⟩ t = ([], wr, ⟨todo, d, b, wr, false⟩) := by unfold put; simp [hwr]
   have HPU := Lib.hid hput
   clear hput
   go_upto_region 6 with (fail)
   go_region
   go_wp2
   go_ret2
   unfold PutPost
   rw [HPU.out]
   refine ⟨_, _, _, _, rfl, HP0.out.below (below_drew _), HS0.out.trans (PStep.below (below_drew _)), nil_row _ _ _ _, .inr rfl⟩
end Go.Proofs.YtmjbpgnjgblnmaaGreat
namespace Go.Proofs.YtmjbpgnjgblnmaaGreat
open Go.RowKit Go.Proofs.YtmjbpgnjgblnmaaGreatW.PrintWords Go.Proofs.YtmjbpgnjgblnmaaGreatW.PrintLast Go.Proofs.YtmjbpgnjgblnmaaGreatW.PrintMore
def ClosePost (p : Nat) (P : Par) (vt ve : Value) (w : World) (e : Ending) (w' : World) : Prop :=
 ∃ v es' vt' ve', e = .returned (.tuple #[v, .int .i64 (closeP P).2.1]) ∧ PAt w' p (closeP P).2.2.todo es' (closeP P).2.2.depth (closeP P).2.2.begun (closeP P).2.2.wrong (closeP P).2.2.closed vt' ve' ∧ PStep p vt ve w vt' ve' w' ∧
  w'.ownsRow p 48 8 v (closeP P).1.length ((closeP P).1.flatMap evCells) ∧ (v = ve' ∧ (closeP P).2.1 = 0 ∨ v = .slice none 0 0)
set_option maxRecDepth 100000 in
set_option maxHeartbeats 8000000 in
theorem Close_any (p : Nat) (P : Par) (es : List Ev) (vt ve : Value) (w : World) (hP : PIn w p P es vt ve) :
  Calls Tryz.prog 12 #[.pointer (some ⟨p, 0, none⟩)] w (ClosePost p P vt ve w) := by
 have HP0 := Lib.hid hP.at_
 have HIN := Lib.hid (And.intro hP.ends (And.intro hP.bt (And.intro hP.bd1 hP.bd2)))
 have HSR := Lib.hid (PStep.refl p vt ve w)
 obtain ⟨q0, q1, q2, q3, q4, q5⟩ := hP.at_.cell
 clear hP
 obtain ⟨todo, d, b, wr, cl⟩ := P
 dsimp only at q0 q1 q2 q3 q4 q5
 obtain ⟨A, cc, hv, -⟩ := row_slice HP0.out.todo
 obtain ⟨n, hn⟩ : ∃ n, todo.length = n := ⟨_, rfl⟩
 replace hv : vt = .slice A n cc := by rw [← hn]; exact hv
 subst hv
 have HN := Lib.hid hn
 clear hn
 go_enter Tryz.func12, Tryz.ntmps12
 cases cl with
 | true =>
  have HPU := Lib.hid (show closeP ⟨todo, d, b, wr, true⟩ = ([], 4, ⟨todo, d, b, wr, true⟩) by unfold closeP; simp)
  go_wp2
  go_ret2
  unfold ClosePost
  rw [HPU.out]
  exact ⟨_, _, _, _, rfl, HP0.out, HSR.out, nil_row _ _ _ _, .inr rfl⟩
 | false =>
  by_cases hwr : wr = 0
  ·subst hwr
   by_cases h1 : n = 1
   ·subst h1
    have HSM : Hid (([] : List Ev).length ≤ 1099511627776) := Lib.hid (by decide)
    have HDD : Hid (-4611686018427387904 ≤ d ∧ d ≤ 4611686018427387904) := Lib.hid (by have := HIN.out; dsimp only at this; omega)
    have HPU := Lib.hid (show closeP ⟨todo, d, b, 0, false⟩ = ([evOf (3, 1)], 0, ⟨todo, d - 1, b, 0, true⟩) by unfold closeP; simp [HN.out])
    go_wp2_with (first
     | ((with_reducible refine gate_ (.store 4 (.tmp 14) (.const (.bool true))) rfl ?_); refine wl_cells rfl rfl _ _ _ rfl (g := p) (off := 5) (.bool true) [.bool true] rfl rfl rfl (by kernel_rfl) (fun v hv => by rw [List.mem_singleton.1 hv]; rfl) HP0.out.box (by simp) ?_; intro V1 hV; obtain ⟨hA, hS⟩ := HP0.out.upd 5 (.bool true) (by decide) (s' := todo) (es' := es) (d' := d) (b' := b) (wr' := 0) (cl' := true) (vt' := _) (ve' := ve) rfl HP0.out.todo HP0.out.evs (fun _ h => h) (fun _ h => h); rw [← hV] at hA hS; have HP1 := Lib.hid hA; have HS1 := Lib.hid (HSR.out.trans hS); clear q0 q1 q2 q3 q4 q5 hV; obtain ⟨q0, q1, q2, q3, q4, q5⟩ := hA.cell; clear hA hS)
     | ((with_reducible refine gate_ (.store 41 (.tmp 39) (.const (.slice none 0 0))) rfl ?_); refine wl_cells rfl rfl _ _ _ rfl (g := p) (off := 1) (.slice none 0 0) [.slice none 0 0] rfl rfl rfl (by kernel_rfl) (fun v hv => by rw [List.mem_singleton.1 hv]; rfl) HP1.out.box (by simp) ?_; intro V2 hV; obtain ⟨hA, hS⟩ := HP1.out.upd 1 (.slice none 0 0) (by decide) (s' := todo) (es' := []) (d' := d) (b' := b) (wr' := 0) (cl' := true) (vt' := _) (ve' := .slice none 0 0) rfl HP1.out.todo (nil_row _ _ _ _) (fun _ h => h) (fun _ h => by cases h); rw [← hV] at hA hS; have HP2 := Lib.hid hA; have HS2 := Lib.hid (HS1.out.trans hS); clear q0 q1 q2 q3 q4 q5 hV; obtain ⟨q0, q1, q2, q3, q4, q5⟩ := hA.cell; clear hA hS)
     | (go_at_call 30; refine Calls.mono (close_any p 1 todo [] d b 0 true _ (.slice none 0 0) V2 HP2.out HSM.out HDD.out) ?_; rintro e w5 ⟨rfl, ve5, hP5, hs5⟩; have HP5 := Lib.hid hP5; have HS5 := Lib.hid (HS2.out.trans hs5); clear q0 q1 q2 q3 q4 q5 hs5; obtain ⟨q0, q1, q2, q3, q4, q5⟩ := hP5.cell; clear hP5))
    go_ret2
    unfold ClosePost
    rw [HPU.out]
    exact ⟨_, _, _, _, rfl, HP5.out, HS5.out, HP5.out.evs, .inl ⟨rfl, rfl⟩⟩
   ·have e0 : ((n : Int) != 1) = true := by rw [bne_iff_ne]; omega
    have e1 : ¬ ((n : Int) = 1) := by omega
    have HPU := Lib.hid (show closeP ⟨todo, d, b, 0, false⟩ = ([], 121, ⟨todo, d, b, 121, true⟩) by unfold closeP; simp [HN.out, h1])
    go_upto_region 10 with (first
     | ((with_reducible refine gate_ (.store 4 (.tmp 14) (.const (.bool true))) rfl ?_); refine wl_cells rfl rfl _ _ _ rfl (g := p) (off := 5) (.bool true) [.bool true] rfl rfl rfl (by kernel_rfl) (fun v hv => by rw [List.mem_singleton.1 hv]; rfl) HP0.out.box (by simp) ?_; intro V1 hV; obtain ⟨hA, hS⟩ := HP0.out.upd 5 (.bool true) (by decide) (s' := todo) (es' := es) (d' := d) (b' := b) (wr' := 0) (cl' := true) (vt' := _) (ve' := ve) rfl HP0.out.todo HP0.out.evs (fun _ h => h) (fun _ h => h); rw [← hV] at hA hS; have HP1 := Lib.hid hA; have HS1 := Lib.hid (HSR.out.trans hS); clear q0 q1 q2 q3 q4 q5 hV; obtain ⟨q0, q1, q2, q3, q4, q5⟩ := hA.cell; clear hA hS)
     | ((with_reducible refine gate_ (.store 33 (.tmp 32) (.const (.int .i64 121))) rfl ?_); refine wl_cells rfl rfl _ _ _ rfl (g := p) (off := 4) (.int .i64 121) [.int .i64 121] rfl rfl rfl (by kernel_rfl) (fun v hv => by rw [List.mem_singleton.1 hv]; rfl) HP1.out.box (by simp) ?_; intro V2 hV; obtain ⟨hA, hS⟩ := HP1.out.upd 4 (.int .i64 121) (by decide) (s' := todo) (es' := es) (d' := d) (b' := b) (wr' := 121) (cl' := true) (vt' := _) (ve' := ve) rfl HP1.out.todo HP1.out.evs (fun _ h => h) (fun _ h => h); rw [← hV] at hA hS; have HP2 := Lib.hid hA; have HS2 := Lib.hid (HS1.out.trans hS); clear q0 q1 q2 q3 q4 q5 hV; obtain ⟨q0, q1, q2, q3, q4, q5⟩ := hA.cell; clear hA hS))
    go_region
    go_wp2
    go_ret2
    unfold ClosePost
    rw [HPU.out]
    exact ⟨_, _, _, _, rfl, HP2.out.below (below_drew _), HS2.out.trans (PStep.below (below_drew _)), nil_row _ _ _ _, .inr rfl⟩
  ·have e0 : (wr != 0) = true := by rw [bne_iff_ne]; exact hwr
   have HPU := Lib.hid (show closeP ⟨todo, d, b, wr, false⟩ = ([], wr, ⟨todo, d, b, wr, true⟩) by unfold closeP; simp [hwr])
   clear hwr
   go_upto_region 7 with (((with_reducible refine gate_ (.store 4 (.tmp 14) (.const (.bool true))) rfl ?_); refine wl_cells rfl rfl _ _ _ rfl (g := p) (off := 5) (.bool true) [.bool true] rfl rfl rfl (by kernel_rfl) (fun v hv => by rw [List.mem_singleton.1 hv]; rfl) HP0.out.box (by simp) ?_; intro V1 hV; obtain ⟨hA, hS⟩ := HP0.out.upd 5 (.bool true) (by decide) (s' := todo) (es' := es) (d' := d) (b' := b) (wr' := wr) (cl' := true) (vt' := _) (ve' := ve) rfl HP0.out.todo HP0.out.evs (fun _ h => h) (fun _ h => h); rw [← hV] at hA hS; have HP1 := Lib.hid hA; have HS1 := Lib.hid (HSR.out.trans hS); clear q0 q1 q2 q3 q4 q5 hV; obtain ⟨q0, q1, q2, q3, q4, q5⟩ := hA.cell; clear hA hS))
   go_region
   go_wp2
   go_ret2
   unfold ClosePost
   rw [HPU.out]
   exact ⟨_, _, _, _, rfl, HP1.out.below (below_drew _), HS1.out.trans (PStep.below (below_drew _)), nil_row _ _ _ _, .inr rfl⟩
theorem par_new (w : World) : PAt (w.alloc (.cells #[.slice none 0 0, .slice none 0 0, .int .i64 0, .bool false, .int .i64 0, .bool false] 72)) w.heap.size [] [] 0 false 0 false (.slice none 0 0) (.slice none 0 0) :=
 ⟨World.alloc_heap_new _ _, nil_row _ _ _ _, nil_row _ _ _ _⟩
set_option maxRecDepth 100000 in
theorem New_any (w : World) : Calls Tryz.prog 10 #[] w fun e w' => ∃ vt, e = .returned (.pointer (some ⟨w.heap.size, 0, none⟩)) ∧ PIn w' w.heap.size newPar [] vt (.slice none 0 0) ∧ Below w.heap.size w w' := by
 have hb0 : Below w.heap.size w (w.alloc (.cells #[.slice none 0 0, .slice none 0 0, .int .i64 0, .bool false, .int .i64 0, .bool false] 72)) := (Below.refl _ w).alloc (Nat.le_refl _) _
 have hp0 := par_new w
 go_enter Tryz.func10, Tryz.ntmps10
 go_upto_region 2 with (fail)
 obtain ⟨W0, hW0⟩ : ∃ V, w.alloc (.cells #[.slice none 0 0, .slice none 0 0, .int .i64 0, .bool false, .int .i64 0, .bool false] 72) = V := ⟨_, rfl⟩
 rw [hW0] at hb0 hp0 ⊢
 have HP := Lib.hid hp0
 have HB0 := Lib.hid hb0
 have HS := Lib.hid (PStep.refl w.heap.size (.slice none 0 0) (.slice none 0 0) W0)
 clear hW0 hb0 hp0
 go_wp2_with (first
  | (go_at_call 25; (with_reducible refine Calls.mono (word_any _ _) ?_); rintro e w9 ⟨rfl, hb⟩; replace HP := Lib.hid (HP.out.below hb); replace HS := Lib.hid (HS.out.trans (PStep.below hb)); clear hb)
  | (go_at_call 26; (with_reducible refine Calls.mono (rule_any _ _) ?_); rintro e w9 ⟨rfl, hb⟩; replace HP := Lib.hid (HP.out.below hb); replace HS := Lib.hid (HS.out.trans (PStep.below hb)); clear hb)
  | (go_at_call 28; refine Calls.mono (end_any 1 _) ?_; rintro e w9 ⟨rfl, hb⟩; replace HP := Lib.hid (HP.out.below hb); replace HS := Lib.hid (HS.out.trans (PStep.below hb)); clear hb)
  | (go_at_call 24; refine (push_new HP.out newPar.todo 6 [.string ⟨#[112, 114, 111, 103, 114, 97, 109]⟩, .int .u8 0, .nilFunc, .string ⟨#[64, 110, 97, 109, 101]⟩, .int .u8 0, .nilFunc, .string ⟨#[59]⟩, .int .u8 0, .nilFunc, .string ⟨#[]⟩, .int .u8 0, .func (.func 27) #[] #[], .string ⟨#[46]⟩, .int .u8 0, .nilFunc, .string ⟨#[]⟩, .int .u8 1, .nilFunc] rfl rfl (by decide) (by decide)).mono ?_; rintro e w9 ⟨rfl, vt9, hP9, hs9⟩; have HP9 := Lib.hid hP9; have HS9 := Lib.hid (HS.out.trans hs9); clear hP9 hs9))
 go_ret
 refine ⟨_, rfl, ⟨by have h := HP9.out; rw [List.append_nil] at h; exact h, ?_, by decide, by decide, by decide⟩, ?_⟩
 ·intro k hk
  simp only [newPar, List.mem_cons, List.not_mem_nil, or_false, reduceCtorEq, false_or, WT.fin.injEq] at hk
  omega
 ·refine ⟨HS9.out.os.trans HB0.out.os, HS9.out.tape.trans HB0.out.tape, HS9.out.output.trans HB0.out.output, Nat.le_trans HB0.out.size HS9.out.size, fun q hq => (HS9.out.block q (Nat.lt_of_lt_of_le hq HB0.out.size) (by omega) (by simp [Value.ownBlock]) (by simp [Value.ownBlock])).trans (HB0.out.block q hq)⟩
end Go.Proofs.YtmjbpgnjgblnmaaGreat
namespace Go.Proofs.YtmjbpgnjgblnmaaGreat
open Go.RowKit Go.Proofs.YtmjbpgnjgblnmaaGreatW.PrintWords Go.Proofs.YtmjbpgnjgblnmaaGreatW.PrintLast Go.Proofs.YtmjbpgnjgblnmaaGreatW.PrintMore
theorem turns_ends (c : ByteArray) : ∀ (n : Nat) (s : PSt) (r : Bool × PSt), turns c n s = some r → Ends s.todo → Ends r.2.todo
 | 0, s, r, h, _ => by simp [turns] at h
 | n + 1, s, r, h, hE => by
  rw [turns] at h
  split at h
  ·rename_i s' hs
   exact turns_ends c n s' r h (turn_ends hs hE)
  all_goals
   rename_i s' hs
   cases h
   unfold turn at hs
   split at hs
   ·cases hs <;> exact hE
   ·rename_i x r hr
    rw [hr] at hE
    split at hs <;> cases hs <;> exact hE.tail
   ·cases hs
   ·rename_i f r hr
    rw [hr] at hE
    split at hs <;> cases hs <;> exact hE.tail
theorem token_ends (t : Tk) (todo : List WT) (depth : Int) (hE : Ends todo) : Ends (token t todo depth).2.todo := by
 obtain ⟨r, h1, h2⟩ := some_len (codeOf t) todo.length ⟨todo, [], depth⟩ rfl
 have h3 := turns_ends _ _ _ _ h1 hE
 obtain ⟨b, s⟩ := r
 unfold token
 rw [h1]
 cases b with
 | false => exact h3
 | true =>
  simp only
  split
  ·exact h3
  ·split <;> exact h3
theorem put_ends {p : Par} (t : Tk) (hE : Ends p.todo) : Ends (put p t).2.2.todo := by
 have h := token_ends t p.todo (preD p) hE
 unfold put
 split
 ·exact hE
 split
 ·exact hE
 split
 ·exact hE
 simp only
 split <;> exact h
theorem put_evlen {p : Par} {op op' : List Nat} (h : PInv p op) (t : Tk) (he : (put p t).2.1 = 0) (h' : PInv (put p t).2.2 op') : (put p t).1.length ≤ 2003 := by
 have hpre : (preE p).length ≤ 1 := by unfold preE; split <;> simp
 have hop := h.opn
 have hm := h'.most
 have hf' := h'.fins
 unfold put at he hf' ⊢
 simp only [h.closed, Bool.false_eq_true, if_false, h.wrong, ne_eq, not_true_eq_false] at he hf' ⊢
 by_cases hn : isNote t = true
 ·simp only [if_pos hn, List.length_append, List.length_singleton]
  omega
 ·simp only [if_neg hn] at he hf' ⊢
  obtain ⟨cl, ops, X, h1, h2, h3, h4, h5, h6⟩ := token_law t p.todo (preD p)
  by_cases h0 : (token t p.todo (preD p)).1 = 0
  ·simp only [h0, not_true_eq_false, if_false] at he hf' ⊢
   obtain ⟨h7, h8⟩ := h5 h0
   simp only [if_true] at hf'
   rw [h7] at hf'
   have hl := congrArg List.length hf'
   rw [List.length_append, List.length_reverse] at hl
   have hcl : (fins p.todo).length ≤ 1000 := by rw [h.fins0]; exact hop.2.1
   rw [h4, List.length_append] at hcl
   rw [List.length_append, List.length_append, List.length_map, h1, List.length_append, List.length_map, List.length_map, List.length_singleton]
   omega
  ·simp only [h0, not_false_eq_true, if_true] at he
theorem row_news {w : World} {base g n cap size : Nat} {e : TypeId} {xs : List Value} (h : w.ownsRow base e size (.slice (some ⟨g, 0, none⟩) n cap) n xs) : ∀ j u, xs[j]? = some u → w.cell? ((⟨g, 0, none⟩ : Addr).add j) = some u := by
 intro j u hj
 rcases h.2 with ⟨he, _⟩ | ⟨g', cap', cur, he, hb, hh, hl, _, hs, ht⟩
 ·cases he
 ·injection he with he
  injection he with he
  injection he with he
  subst he
  have hjl := (List.getElem?_eq_some_iff.1 hj).1
  rw [h.1] at hjl
  have hadd : (⟨g, 0, none⟩ : Addr).add j = ⟨g, j, none⟩ := by unfold Addr.add; split <;> simp_all
  rw [hadd, cell_of_row _ _ _ _ _ _ hh]
  rw [← ht, List.getElem?_take_of_lt hjl, Array.getElem?_toList] at hj
  exact hj
theorem evs_one (l : List Ev) : ∀ v ∈ l.flatMap evCells, v.oneCell' = true := by
 intro v hv
 obtain ⟨e, _, he⟩ := List.mem_flatMap.1 hv
 exact evCells_one e v he
structure AllI (p : Nat) (w : World) (l : List Tk) (i : Nat) (wr : World) (P : Par) (op : List Nat) (acc : List Ev) (es : List Ev) (vt ve vo : Value) : Prop where
 eq : allP newPar l = (acc ++ (allP P (l.drop i)).1, (allP P (l.drop i)).2.1, i + (allP P (l.drop i)).2.2)
 inv : PInv P op
 ends : Ends P.todo
 at_ : PAt wr p P.todo es P.depth P.begun P.wrong P.closed vt ve
 below : Below w.heap.size w wr
 out : wr.ownsRow w.heap.size 48 8 vo acc.length (acc.flatMap evCells)
 ap : ∀ g, vo.ownBlock = some g → ve.ownBlock ≠ some g
 bt : P.todo.length ≤ 6 + 77 * i
 ba : acc.length ≤ 2003 * i
 pw : w.heap.size ≤ p
theorem AllI.pin {p : Nat} {w : World} {l : List Tk} {i : Nat} {wr : World} {P : Par} {op : List Nat} {acc es : List Ev} {vt ve vo : Value} (H : AllI p w l i wr P op acc es vt ve vo) (hi : i ≤ 4194304) : PIn wr p P es vt ve :=
 ⟨H.at_, H.ends, by have := H.bt; omega, by rw [H.inv.depth]; omega, by rw [H.inv.depth]; have := H.inv.most; omega⟩
theorem AllI.outs {p : Nat} {w : World} {l : List Tk} {i : Nat} {wr w2 : World} {P : Par} {op : List Nat} {acc es : List Ev} {vt ve vo vt2 ve2 : Value} (H : AllI p w l i wr P op acc es vt ve vo) (hs : PStep p vt ve wr vt2 ve2 w2) :
  w2.ownsRow w.heap.size 48 8 vo acc.length (acc.flatMap evCells) ∧ Below w.heap.size w w2 ∧ (∀ g, vo.ownBlock = some g → ve2.ownBlock ≠ some g) := by
 refine ⟨own_move H.out (fun q hq => ?_), ⟨hs.os.trans H.below.os, hs.tape.trans H.below.tape, hs.output.trans H.below.output, Nat.le_trans H.below.size hs.size, fun q hq => ?_⟩, fun g hg e => ?_⟩
 ·obtain ⟨cs, hc⟩ := own_typed H.out q hq
  refine hs.block q (blk_lt hc) (fun e => ?_) (fun e => ?_) (fun e => H.ap q hq e.symm)
  ·rw [e, H.at_.box] at hc; exact absurd (cells_ty hc) (by decide)
  ·obtain ⟨cs2, hc2⟩ := own_typed H.at_.todo q e.symm
   rw [hc] at hc2; exact absurd (cells_ty hc2) (by decide)
 ·refine (hs.block q (Nat.lt_of_lt_of_le hq H.below.size) (by have := H.pw; omega) (fun e => ?_) (fun e => ?_)).trans (H.below.block q hq)
  ·have := own_base H.at_.todo q e.symm
   have := H.pw
   omega
  ·have := own_base H.at_.evs q e.symm
   have := H.pw
   omega
 ·rcases hs.fe g e with h | h
  ·exact H.ap g hg h
  ·have := own_lt H.out g hg
   omega
theorem AllI.next {p : Nat} {w : World} {l : List Tk} {i : Nat} {wr w2 w3 : World} {P : Par} {op : List Nat} {acc es es2 : List Ev} {vt ve vo vt2 ve2 : Value} (H : AllI p w l i wr P op acc es vt ve vo) {t : Tk} (ht : l.drop i = t :: l.drop (i + 1)) (he : (put P t).2.1 = 0)
  (hA : PAt w2 p (put P t).2.2.todo es2 (put P t).2.2.depth (put P t).2.2.begun (put P t).2.2.wrong (put P t).2.2.closed vt2 ve2) (hs : PStep p vt ve wr vt2 ve2 w2) {g1 c1 : Nat}
  (ho : w3.ownsRow w.heap.size 48 8 (.slice (some ⟨g1, 0, none⟩) (acc.length + (put P t).1.length) c1) (acc.length + (put P t).1.length) (acc.flatMap evCells ++ (put P t).1.flatMap evCells)) (hg : w2.grownBy w3 vo.ownBlock) (hat : vo.ownBlock = some g1 ∨ g1 = w2.heap.size) :
  ∃ op', AllI p w l (i + 1) w3 (put P t).2.2 op' (acc ++ (put P t).1) es2 vt2 ve2 (.slice (some ⟨g1, 0, none⟩) (acc.length + (put P t).1.length) c1) := by
 obtain ⟨op', hinv, -, -, -⟩ := put_nest H.inv t [] he
 obtain ⟨r1, r2, r3⟩ := H.outs hs
 have hvo : ∀ q, vo.ownBlock = some q → w.heap.size ≤ q := fun q hq => own_base H.out q hq
 refine ⟨op', ?_, hinv, put_ends t H.ends, ⟨?_, ?_, ?_⟩, ⟨hg.os.trans r2.os, hg.tape.trans r2.tape, hg.output.trans r2.output, Nat.le_trans r2.size hg.size, fun q hq => (hg.block q (Nat.lt_of_lt_of_le hq r2.size) (fun e => ?_)).trans (r2.block q hq)⟩, ?_, ?_, ?_, ?_, H.pw⟩
 ·rw [H.eq, ht, all_cons_ok he]
  simp only [Prod.mk.injEq, List.append_assoc, true_and]
  omega
 ·refine (hg.block p (blk_lt hA.box) (fun e => ?_)).trans hA.box
  obtain ⟨cs, hc⟩ := own_typed r1 p e.symm
  rw [hA.box] at hc; exact absurd (cells_ty hc) (by decide)
 ·refine own_move hA.todo (fun q hq => hg.block q (own_lt hA.todo q hq) (fun e => ?_))
  obtain ⟨cs, hc⟩ := own_typed r1 q e.symm
  obtain ⟨cs2, hc2⟩ := own_typed hA.todo q hq
  rw [hc] at hc2; exact absurd (cells_ty hc2) (by decide)
 ·exact own_move hA.evs (fun q hq => hg.block q (own_lt hA.evs q hq) (fun e => r3 q e.symm hq))
 ·have := hvo q e.symm
  omega
 ·rw [List.length_append, List.flatMap_append]
  exact ho
 ·intro g hg' e
  have h1 : g1 = g := by simpa [Value.ownBlock] using hg'
  subst h1
  rcases hat with h | h
  ·exact r3 g1 h e
  ·have := own_lt hA.evs g1 e
   omega
 ·have := put_len P t
  have := H.bt
  omega
 ·have := put_evlen H.inv t he hinv
  have := H.ba
  rw [List.length_append]
  omega
end Go.Proofs.YtmjbpgnjgblnmaaGreat
namespace Go.Proofs.YtmjbpgnjgblnmaaGreat
open Go.RowKit Go.Proofs.YtmjbpgnjgblnmaaGreatW.PrintWords Go.Proofs.YtmjbpgnjgblnmaaGreatW.PrintLast Go.Proofs.YtmjbpgnjgblnmaaGreatW.PrintMore
theorem drop_rd (l : List Tk) (i : Nat) (hi : i < l.length) : l.drop i = PSyntaxEvents.rd_T28 l i :: l.drop (i + 1) := by
 rw [List.drop_eq_getElem_cons hi]
 congr 1
 simp [PSyntaxEvents.rd_T28, List.getD_eq_getElem?_getD, hi]
theorem tok_cells {w : World} {A : Option Addr} {l : List Tk} (hC : Kd.C kTk w A l.length l) (i : Nat) (hi : i < l.length) : ∃ ad, A = some ad ∧ ∀ V, Below w.heap.size w V → V.cell? (ad.add (i * 6)) = some (.int .u8 (PSyntaxEvents.rd_T28 l i).f0) ∧ V.cell? ⟨(ad.add (i * 6)).block, (ad.add (i * 6)).off + 1, none⟩ = some (.string (PSyntaxEvents.rd_T28 l i).f1) ∧ V.cell? ⟨(ad.add (i * 6)).block, (ad.add (i * 6)).off + 2, none⟩ = some (.int .i64 (PSyntaxEvents.rd_T28 l i).f2.f0) ∧ V.cell? ⟨(ad.add (i * 6)).block, (ad.add (i * 6)).off + 3, none⟩ = some (.int .i64 (PSyntaxEvents.rd_T28 l i).f2.f1) ∧ V.cell? ⟨(ad.add (i * 6)).block, (ad.add (i * 6)).off + 4, none⟩ = some (.int .i64 (PSyntaxEvents.rd_T28 l i).f2.f2) ∧ V.cell? ⟨(ad.add (i * 6)).block, (ad.add (i * 6)).off + 5, none⟩ = some (.int .i64 (PSyntaxEvents.rd_T28 l i).f3) := by
 obtain ⟨ad, h1, h2, h3, h4, h5, h6, h7⟩ := PSyntaxEvents.at_T28 hC (i : Int) (by omega) (by omega)
 simp only [Int.toNat_natCast] at h2 h3 h4 h5 h6 h7
 exact ⟨ad, h1, fun V hV => ⟨pw_cell_below hV h2, pw_cell_below hV h3, pw_cell_below hV h4, pw_cell_below hV h5, pw_cell_below hV h6, pw_cell_below hV h7⟩⟩
section
variable {ops : Array Oper} {rest : List Oper} {o : Oper} {a : Act} {Q : Exit → Act → World → Prop} {W : World}
theorem wl_evs (hgd : o.guard = none) (s x : Operand) (ho : o.op = .call { callee := .builtin .append, args := #[s, x], argTypes := #[41, 41] }) (base : Nat) {v : Value} {n : Nat} {xs : List Value} (hs : a.eval s = v) (hown : W.ownsRow base 48 8 v n xs)
  {gx m cx b2 : Nat} {news : List Value} (hx : a.eval x = .slice (some ⟨gx, 0, none⟩) m cx) (hrow : W.ownsRow b2 48 8 (.slice (some ⟨gx, 0, none⟩) m cx) m news) (h1 : ∀ u ∈ news, u.oneCell' = true) (hm : 0 < m) (hl : (n + m) * 64 ≤ 140737488355328) (hbase : base ≤ W.heap.size)
  (h : ∀ g1 c1 w1, w1.ownsRow base 48 8 (.slice (some ⟨g1, 0, none⟩) (n + m) c1) (n + m) (xs ++ news) → W.grownBy w1 v.ownBlock → (v.ownBlock = some g1 ∨ g1 = W.heap.size) → wpList Tryz.prog ops Q rest (a.put o.dst (.slice (some ⟨g1, 0, none⟩) (n + m) c1)) w1) : wpList Tryz.prog ops Q (o :: rest) a W := by
 obtain ⟨i0, hi, hzz⟩ := Option.map_eq_some_iff.1 infoEv
 simp only [Prod.mk.injEq] at hzz
 obtain ⟨hz0, hz1, hz2⟩ := hzz
 exact wpList_append_lies W hgd s x 41 ho base 48 i0 _ 8 64 Tryz.underlying41 hi hz0 hz1 hz2 rfl (by decide) v n xs hs hown ⟨gx, 0, none⟩ m cx news hx hrow.1 (row_news hrow) h1 hm (by simp only [maxLen]; omega) hl hbase W.heap.size rfl (fun g1 c1 w1 h2 h3 h4 _ => h g1 c1 w1 h2 h3 h4)
end
end Go.Proofs.YtmjbpgnjgblnmaaGreat
namespace Go.Proofs.YtmjbpgnjgblnmaaGreat
open Go.RowKit Go.Proofs.YtmjbpgnjgblnmaaGreatW.PrintWords Go.Proofs.YtmjbpgnjgblnmaaGreatW.PrintLast Go.Proofs.YtmjbpgnjgblnmaaGreatW.PrintMore
structure SAt (W0 : World) (A : Option Addr) (c : Nat) (l : List Tk) (w : World) (p : Nat) (i : Nat) (d : Int) (out : List Ev) (ve : Value) : Prop where
 box : w.heap[p]? = some (.cells #[.slice A l.length c, .int .i64 i, .int .i64 d, ve] 56 (0, 0))
 row : w.ownsRow p 48 8 ve out.length (out.flatMap evCells)
 below : Below W0.heap.size W0 w
 toks : Kd.C kTk W0 A l.length l
 hp : W0.heap.size ≤ p
 len : l.length ≤ 4194304
 ile : i ≤ l.length
abbrev MStep (p : Nat) (ve : Value) (w : World) (ve' : Value) (w' : World) : Prop := PStep p (.slice none 0 0) ve w (.slice none 0 0) ve' w'
section
variable {W0 : World} {A : Option Addr} {c : Nat} {l : List Tk} {w w' : World} {p : Nat} {i : Nat} {d : Int} {out : List Ev} {ve ve' : Value}
theorem SAt.cell (H : SAt W0 A c l w p i d out ve) : w.cell? ⟨p, 0, none⟩ = some (.slice A l.length c) ∧ w.cell? ⟨p, 1, none⟩ = some (.int .i64 i) ∧ w.cell? ⟨p, 2, none⟩ = some (.int .i64 d) ∧ w.cell? ⟨p, 3, none⟩ = some ve :=
 ⟨cell_of_row _ _ _ _ _ _ H.box, cell_of_row _ _ _ _ _ _ H.box, cell_of_row _ _ _ _ _ _ H.box, cell_of_row _ _ _ _ _ _ H.box⟩
theorem SAt.moved (H : SAt W0 A c l w p i d out ve) (h : Below w.heap.size w w') : SAt W0 A c l w' p i d out ve :=
 ⟨(h.block p (blk_lt H.box)).trans H.box, own_move H.row (fun q hq => h.block q (own_lt H.row q hq)), H.below.trans (h.mono H.below.size), H.toks, H.hp, H.len, H.ile⟩
theorem mkeep {T : TypeId} {g : Nat} {B : Array Value} (h : MStep p ve w ve' w') (H : SAt W0 A c l w p i d out ve) (hA : w.heap[g]? = some (.cells B T (0, 0))) (h1 : T ≠ 56) (h3 : T ≠ 48) : w'.heap[g]? = some (.cells B T (0, 0)) := by
 refine (h.block g (blk_lt hA) (fun e => ?_) (fun e => by cases e) (fun e => ?_)).trans hA
 ·rw [e, H.box] at hA; exact h1 (cells_ty hA).symm
 ·obtain ⟨cs, hc⟩ := own_typed H.row g e.symm
  rw [hA] at hc; exact h3 (cells_ty hc)
theorem mout (h : MStep p ve w ve' w') (H : SAt W0 A c l w p i d out ve) : Below W0.heap.size W0 w' := by
 refine ⟨h.os.trans H.below.os, h.tape.trans H.below.tape, h.output.trans H.below.output, Nat.le_trans H.below.size h.size, fun q hq => ?_⟩
 have := H.hp
 refine (h.block q (Nat.lt_of_lt_of_le hq H.below.size) (by omega) (fun e => by cases e) (fun e => ?_)).trans (H.below.block q hq)
 have := own_base H.row q e.symm
 omega
theorem SAt.upd (H : SAt W0 A c l w p i d out ve) (off : Nat) (v : Value) (hoff : off < 4) {i' : Nat} {d' : Int} (hc : [Value.slice A l.length c, .int .i64 i, .int .i64 d, ve].take off ++ [v] ++ [Value.slice A l.length c, .int .i64 i, .int .i64 d, ve].drop (off + 1) = [Value.slice A l.length c, .int .i64 i', .int .i64 d', ve])
  (hi : i' ≤ l.length) : SAt W0 A c l (w.setCells p off [v]) p i' d' out ve ∧ MStep p ve w ve (w.setCells p off [v]) := by
 obtain ⟨cur', k1, k2, k3⟩ := setCells_row [v] off w _ H.box (by simp; omega)
 have hfar : ∀ q, q ≠ p → (w.setCells p off [v]).heap[q]? = w.heap[q]? := fun q hq => setCells_far _ off q hq
 have hsm := setCells_same p [v] off w
 have hst : MStep p ve w ve (w.setCells p off [v]) := ⟨hsm.1, hsm.2.1, hsm.2.2.1, by rw [hsm.2.2.2]; exact Nat.le_refl _, fun q _ h0 _ _ => hfar q h0, fun g h => .inl h, fun g h => .inl h⟩
 refine ⟨⟨?_, ?_, mout hst H, H.toks, H.hp, H.len, hi⟩, hst⟩
 ·rw [k1]
  have : cur' = #[Value.slice A l.length c, .int .i64 i', .int .i64 d', ve] := by
   apply Array.toList_inj.1
   rw [k3]
   exact hc
  rw [this]
 ·refine own_move H.row (fun q hq => hfar q (fun e => ?_))
  obtain ⟨cs, hc2⟩ := own_typed H.row q hq
  rw [e, H.box] at hc2; cases hc2
theorem SAt.next {w1 : World} {g1 c1 : Nat} {e : Ev} (H : SAt W0 A c l w p i d out ve) (ho : w1.ownsRow p 48 8 (.slice (some ⟨g1, 0, none⟩) (out.length + 1) c1) (out.length + 1) (out.flatMap evCells ++ evCells e)) (hg : w.grownBy w1 ve.ownBlock) (hat : ve.ownBlock = some g1 ∨ w.heap.size < g1) :
  (∃ cur : Array Value, w1.heap[p]? = some (.cells cur 56 (0, 0)) ∧ 3 + 1 ≤ cur.size) ∧ ∀ V, V = w1.setCells p 3 [.slice (some ⟨g1, 0, none⟩) (out.length + 1) c1] →
   SAt W0 A c l V p i d (out ++ [e]) (.slice (some ⟨g1, 0, none⟩) (out.length + 1) c1) ∧ MStep p ve w (.slice (some ⟨g1, 0, none⟩) (out.length + 1) c1) V := by
 have hpe : ve.ownBlock ≠ some p := fun e => by
  obtain ⟨cs, hc⟩ := own_typed H.row p e
  rw [H.box] at hc; cases hc
 have hbp : w1.heap[p]? = _ := (hg.block p (blk_lt H.box) (fun e => hpe e.symm)).trans H.box
 refine ⟨⟨_, hbp, by simp⟩, ?_⟩
 rintro _ rfl
 obtain ⟨cur', k1, k2, k3⟩ := setCells_row [.slice (some ⟨g1, 0, none⟩) (out.length + 1) c1] 3 w1 _ hbp (by simp)
 have hfar : ∀ q, q ≠ p → (w1.setCells p 3 [.slice (some ⟨g1, 0, none⟩) (out.length + 1) c1]).heap[q]? = w1.heap[q]? := fun q hq => setCells_far _ 3 q hq
 have hsm := setCells_same p [.slice (some ⟨g1, 0, none⟩) (out.length + 1) c1] 3 w1
 have hgp : g1 ≠ p := fun e => by
  obtain ⟨cs, hc⟩ := own_typed ho g1 (by simp [Value.ownBlock])
  rw [e, hbp] at hc; cases hc
 have hst : MStep p ve w (.slice (some ⟨g1, 0, none⟩) (out.length + 1) c1) (w1.setCells p 3 [.slice (some ⟨g1, 0, none⟩) (out.length + 1) c1]) := by
  refine ⟨hsm.1.trans hg.os, hsm.2.1.trans hg.tape, hsm.2.2.1.trans hg.output, by rw [hsm.2.2.2]; exact hg.size, fun q hq h0 h1 h2 => ?_, fun g h => .inl h, fun g hg' => ?_⟩
  ·rw [hfar q h0]
   exact hg.block q hq h2
  ·have : g1 = g := by simpa [Value.ownBlock] using hg'
   subst this
   rcases hat with h | h
   ·exact .inl h
   ·exact .inr (by omega)
 refine ⟨⟨?_, ?_, mout hst H, H.toks, H.hp, H.len, H.ile⟩, hst⟩
 ·rw [k1]
  have : cur' = #[Value.slice A l.length c, .int .i64 i, .int .i64 d, .slice (some ⟨g1, 0, none⟩) (out.length + 1) c1] := by
   apply Array.toList_inj.1
   rw [k3]
   rfl
  rw [this]
 ·have h2 := own_move ho (w1 := w1.setCells p 3 [.slice (some ⟨g1, 0, none⟩) (out.length + 1) c1]) (fun q hq => hfar q (fun e => hgp ((show g1 = q by simpa [Value.ownBlock] using hq).trans e)))
  simp only [List.length_append, List.length_cons, List.length_nil, Nat.zero_add, List.flatMap_append, List.flatMap_cons, List.flatMap_nil, List.append_nil]
  exact h2
end
abbrev giveUp (e : Int) (i : Nat) : Ending := .panicked [{ v := .iface 52 (.agg #[.int .i64 e, .int .i64 i]), recovered := false }]
set_option maxRecDepth 100000 in
set_option maxHeartbeats 4000000 in
theorem fail_any {W0 : World} {A : Option Addr} {c : Nat} {l : List Tk} {w : World} {p : Nat} {i : Nat} {d : Int} {out : List Ev} {ve : Value} (H : SAt W0 A c l w p i d out ve) :
  Calls Tryz.prog 39 #[.pointer (some ⟨p, 0, none⟩)] w fun e w' => e = giveUp (if i = l.length then 121 else 120) i ∧ Below w.heap.size w w' := by
 obtain ⟨q0, q1, q2, q3⟩ := H.cell
 have hi := H.ile
 clear H
 go_enter Tryz.func39, Tryz.ntmps39
 by_cases h : i = l.length
 ·subst h
  go_wp2
  go_region
  go_wp2
  exact ⟨rfl, rfl, (Below.refl _ w).drew⟩
 ·have h1 : ((i : Int) == (l.length : Int)) = false := by rw [beq_eq_false_iff_ne]; omega
  have h2 : ¬ ((i : Int) = (l.length : Int)) := by omega
  rw [if_neg h]
  clear h
  go_wp2
  go_region
  go_wp2
  exact ⟨rfl, rfl, (Below.refl _ w).drew⟩
end Go.Proofs.YtmjbpgnjgblnmaaGreat
