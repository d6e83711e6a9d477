/- Close, Depth, New; calls on a nil parser. (Printed by gencls.py.) -/
import Derived.Test.YtmjbpgnjgblnmaaPutW
set_option linter.unusedVariables false
set_option linter.unusedSimpArgs false
namespace Go.Proofs.Ytmjbpgnjgblnmaa
open Go.RowKit Go.Proofs.YtmjbpgnjgblnmaaW.PrintWords Go.Proofs.YtmjbpgnjgblnmaaW.PrintLast Go.Proofs.YtmjbpgnjgblnmaaW.PrintMore

def ClosePost (p : Nat) (P : Par) (vt ve : Value) (w : World) (e : Ending) (w' : World) : Prop :=
  ∃ v es' vt' ve', e = .returned (.tuple #[v, .int .i64 (closeP P).2.1]) ∧ PAt w' p (closeP P).2.2.todo es' (closeP P).2.2.depth (closeP P).2.2.begun (closeP P).2.2.wrong (closeP P).2.2.closed vt' ve' ∧ PStep p vt ve w vt' ve' w' ∧
    w'.ownsRow p 46 8 v (closeP P).1.length ((closeP P).1.flatMap evCells) ∧ (v = ve' ∧ (closeP P).2.1 = 0 ∨ v = .slice none 0 0)
set_option maxRecDepth 100000 in
set_option maxHeartbeats 8000000 in
theorem Close_any (p : Nat) (P : Par) (es : List Ev) (vt ve : Value) (w : World) (hP : PIn w p P es vt ve) :
    Calls Try.prog 26 #[.pointer (some ⟨p, 0, none⟩)] w (ClosePost p P vt ve w) := by
  have HP0 := Lib.hid hP.at_
  have HIN := Lib.hid (And.intro hP.ends (And.intro hP.bt (And.intro hP.bd1 hP.bd2)))
  have HSR := Lib.hid (PStep.refl p vt ve w)
  obtain ⟨q0, q1, q2, q3, q4, q5⟩ := hP.at_.cell
  clear hP
  obtain ⟨todo, d, b, wr, cl⟩ := P
  dsimp only at q0 q1 q2 q3 q4 q5
  obtain ⟨A, cc, hv, -⟩ := row_slice HP0.out.todo
  obtain ⟨n, hn⟩ : ∃ n, todo.length = n := ⟨_, rfl⟩
  replace hv : vt = .slice A n cc := by rw [← hn]; exact hv
  subst hv
  have HN := Lib.hid hn
  clear hn
  go_enter Try.func26, Try.ntmps26
  cases cl with
  | true =>
    have HPU := Lib.hid (show closeP ⟨todo, d, b, wr, true⟩ = ([], 4, ⟨todo, d, b, wr, true⟩) by unfold closeP; simp)
    go_wp2
    go_ret2
    unfold ClosePost
    rw [HPU.out]
    exact ⟨_, _, _, _, rfl, HP0.out, HSR.out, nil_row _ _ _ _, .inr rfl⟩
  | false =>
    by_cases hwr : wr = 0
    · subst hwr
      by_cases h1 : n = 1
      · subst h1
        have HSM : Hid (([] : List Ev).length ≤ 1099511627776) := Lib.hid (by decide)
        have HDD : Hid (-4611686018427387904 ≤ d ∧ d ≤ 4611686018427387904) := Lib.hid (by have := HIN.out; dsimp only at this; omega)
        have HPU := Lib.hid (show closeP ⟨todo, d, b, 0, false⟩ = ([evOf (3, 1)], 0, ⟨todo, d - 1, b, 0, true⟩) by unfold closeP; simp [HN.out])
        go_wp2_with (first
          | ((with_reducible refine gate_ (.store 4 (.tmp 14) (.const (.bool true))) rfl ?_); refine wl_cells rfl rfl _ _ _ rfl (g := p) (off := 5) (.bool true) [.bool true] rfl rfl rfl (by kernel_rfl) (fun v hv => by rw [List.mem_singleton.1 hv]; rfl) HP0.out.box (by simp) ?_; intro V1 hV; obtain ⟨hA, hS⟩ := HP0.out.upd 5 (.bool true) (by decide) (s' := todo) (es' := es) (d' := d) (b' := b) (wr' := 0) (cl' := true) (vt' := _) (ve' := ve) rfl HP0.out.todo HP0.out.evs (fun _ h => h) (fun _ h => h); rw [← hV] at hA hS; have HP1 := Lib.hid hA; have HS1 := Lib.hid (HSR.out.trans hS); clear q0 q1 q2 q3 q4 q5 hV; obtain ⟨q0, q1, q2, q3, q4, q5⟩ := hA.cell; clear hA hS)
          | ((with_reducible refine gate_ (.store 38 (.tmp 39) (.const (.slice none 0 0))) rfl ?_); refine wl_cells rfl rfl _ _ _ rfl (g := p) (off := 1) (.slice none 0 0) [.slice none 0 0] rfl rfl rfl (by kernel_rfl) (fun v hv => by rw [List.mem_singleton.1 hv]; rfl) HP1.out.box (by simp) ?_; intro V2 hV; obtain ⟨hA, hS⟩ := HP1.out.upd 1 (.slice none 0 0) (by decide) (s' := todo) (es' := []) (d' := d) (b' := b) (wr' := 0) (cl' := true) (vt' := _) (ve' := .slice none 0 0) rfl HP1.out.todo (nil_row _ _ _ _) (fun _ h => h) (fun _ h => by cases h); rw [← hV] at hA hS; have HP2 := Lib.hid hA; have HS2 := Lib.hid (HS1.out.trans hS); clear q0 q1 q2 q3 q4 q5 hV; obtain ⟨q0, q1, q2, q3, q4, q5⟩ := hA.cell; clear hA hS)
          | (go_at_call 47; refine Calls.mono (close_any p 1 todo [] d b 0 true _ (.slice none 0 0) V2 HP2.out HSM.out HDD.out) ?_; rintro e w5 ⟨rfl, ve5, hP5, hs5⟩; have HP5 := Lib.hid hP5; have HS5 := Lib.hid (HS2.out.trans hs5); clear q0 q1 q2 q3 q4 q5 hs5; obtain ⟨q0, q1, q2, q3, q4, q5⟩ := hP5.cell; clear hP5))
        go_ret2
        unfold ClosePost
        rw [HPU.out]
        exact ⟨_, _, _, _, rfl, HP5.out, HS5.out, HP5.out.evs, .inl ⟨rfl, rfl⟩⟩
      · have e0 : ((n : Int) != 1) = true := by rw [bne_iff_ne]; omega
        have e1 : ¬ ((n : Int) = 1) := by omega
        have HPU := Lib.hid (show closeP ⟨todo, d, b, 0, false⟩ = ([], 121, ⟨todo, d, b, 121, true⟩) by unfold closeP; simp [HN.out, h1])
        go_upto_region 10 with (first
          | ((with_reducible refine gate_ (.store 4 (.tmp 14) (.const (.bool true))) rfl ?_); refine wl_cells rfl rfl _ _ _ rfl (g := p) (off := 5) (.bool true) [.bool true] rfl rfl rfl (by kernel_rfl) (fun v hv => by rw [List.mem_singleton.1 hv]; rfl) HP0.out.box (by simp) ?_; intro V1 hV; obtain ⟨hA, hS⟩ := HP0.out.upd 5 (.bool true) (by decide) (s' := todo) (es' := es) (d' := d) (b' := b) (wr' := 0) (cl' := true) (vt' := _) (ve' := ve) rfl HP0.out.todo HP0.out.evs (fun _ h => h) (fun _ h => h); rw [← hV] at hA hS; have HP1 := Lib.hid hA; have HS1 := Lib.hid (HSR.out.trans hS); clear q0 q1 q2 q3 q4 q5 hV; obtain ⟨q0, q1, q2, q3, q4, q5⟩ := hA.cell; clear hA hS)
          | ((with_reducible refine gate_ (.store 39 (.tmp 32) (.const (.int .i64 121))) rfl ?_); refine wl_cells rfl rfl _ _ _ rfl (g := p) (off := 4) (.int .i64 121) [.int .i64 121] rfl rfl rfl (by kernel_rfl) (fun v hv => by rw [List.mem_singleton.1 hv]; rfl) HP1.out.box (by simp) ?_; intro V2 hV; obtain ⟨hA, hS⟩ := HP1.out.upd 4 (.int .i64 121) (by decide) (s' := todo) (es' := es) (d' := d) (b' := b) (wr' := 121) (cl' := true) (vt' := _) (ve' := ve) rfl HP1.out.todo HP1.out.evs (fun _ h => h) (fun _ h => h); rw [← hV] at hA hS; have HP2 := Lib.hid hA; have HS2 := Lib.hid (HS1.out.trans hS); clear q0 q1 q2 q3 q4 q5 hV; obtain ⟨q0, q1, q2, q3, q4, q5⟩ := hA.cell; clear hA hS))
        go_region
        go_wp2
        go_ret2
        unfold ClosePost
        rw [HPU.out]
        exact ⟨_, _, _, _, rfl, HP2.out.below (below_drew _), HS2.out.trans (PStep.below (below_drew _)), nil_row _ _ _ _, .inr rfl⟩
    · have e0 : (wr != 0) = true := by rw [bne_iff_ne]; exact hwr
      have HPU := Lib.hid (show closeP ⟨todo, d, b, wr, false⟩ = ([], wr, ⟨todo, d, b, wr, true⟩) by unfold closeP; simp [hwr])
      clear hwr
      go_upto_region 7 with (((with_reducible refine gate_ (.store 4 (.tmp 14) (.const (.bool true))) rfl ?_); refine wl_cells rfl rfl _ _ _ rfl (g := p) (off := 5) (.bool true) [.bool true] rfl rfl rfl (by kernel_rfl) (fun v hv => by rw [List.mem_singleton.1 hv]; rfl) HP0.out.box (by simp) ?_; intro V1 hV; obtain ⟨hA, hS⟩ := HP0.out.upd 5 (.bool true) (by decide) (s' := todo) (es' := es) (d' := d) (b' := b) (wr' := wr) (cl' := true) (vt' := _) (ve' := ve) rfl HP0.out.todo HP0.out.evs (fun _ h => h) (fun _ h => h); rw [← hV] at hA hS; have HP1 := Lib.hid hA; have HS1 := Lib.hid (HSR.out.trans hS); clear q0 q1 q2 q3 q4 q5 hV; obtain ⟨q0, q1, q2, q3, q4, q5⟩ := hA.cell; clear hA hS))
      go_region
      go_wp2
      go_ret2
      unfold ClosePost
      rw [HPU.out]
      exact ⟨_, _, _, _, rfl, HP1.out.below (below_drew _), HS1.out.trans (PStep.below (below_drew _)), nil_row _ _ _ _, .inr rfl⟩
set_option maxRecDepth 100000 in
theorem Depth_any (p : Nat) (P : Par) (es : List Ev) (vt ve : Value) (w : World) (hP : PAt w p P.todo es P.depth P.begun P.wrong P.closed vt ve) :
    Calls Try.prog 25 #[.pointer (some ⟨p, 0, none⟩)] w fun e w' => e = .returned (.int .i64 (if P.closed then 0 else P.depth)) ∧ w' = w := by
  obtain ⟨q0, q1, q2, q3, q4, q5⟩ := hP.cell
  clear hP
  obtain ⟨todo, d, b, wr, cl⟩ := P
  dsimp only at q0 q1 q2 q3 q4 q5 ⊢
  go_enter Try.func25, Try.ntmps25
  cases cl with
  | true =>
    go_wp2
    go_ret
    exact ⟨rfl, rfl⟩
  | false =>
    go_wp2
    go_ret
    exact ⟨rfl, rfl⟩
theorem Put_nil (t : Tk) (w : World) : Calls Try.prog 24 #[.pointer none, .agg #[.int .u8 t.f0, .string t.f1, .int .i64 t.f2.f0, .int .i64 t.f2.f1, .int .i64 t.f2.f2, .int .i64 t.f3]] w fun e w' => e = .returned (.tuple #[.slice none 0 0, .int .i64 3]) ∧ Below w.heap.size w w' := by
  go_enter Try.func24, Try.ntmps24
  go_wp2
  go_ret2
  exact ⟨rfl, (Below.refl _ w).alloc (Nat.le_refl _) _⟩
theorem Close_nil (w : World) : Calls Try.prog 26 #[.pointer none] w fun e w' => e = .returned (.tuple #[.slice none 0 0, .int .i64 3]) ∧ w' = w := by
  go_enter Try.func26, Try.ntmps26
  go_wp2
  go_ret2
  exact ⟨rfl, rfl⟩
theorem Depth_nil (w : World) : Calls Try.prog 25 #[.pointer none] w fun e w' => e = .returned (.int .i64 0) ∧ w' = w := by
  go_enter Try.func25, Try.ntmps25
  go_wp2
  go_ret
  exact ⟨rfl, rfl⟩
theorem par_new (w : World) : PAt (w.alloc (.cells #[.slice none 0 0, .slice none 0 0, .int .i64 0, .bool false, .int .i64 0, .bool false] 67)) w.heap.size [] [] 0 false 0 false (.slice none 0 0) (.slice none 0 0) :=
  ⟨World.alloc_heap_new _ _, nil_row _ _ _ _, nil_row _ _ _ _⟩
set_option maxRecDepth 100000 in
theorem New_any (w : World) : Calls Try.prog 9 #[] w fun e w' => ∃ vt, e = .returned (.pointer (some ⟨w.heap.size, 0, none⟩)) ∧ PIn w' w.heap.size newPar [] vt (.slice none 0 0) ∧ Below w.heap.size w w' := by
  have hb0 : Below w.heap.size w (w.alloc (.cells #[.slice none 0 0, .slice none 0 0, .int .i64 0, .bool false, .int .i64 0, .bool false] 67)) := (Below.refl _ w).alloc (Nat.le_refl _) _
  have hp0 := par_new w
  go_enter Try.func9, Try.ntmps9
  go_upto_region 2 with (fail)
  obtain ⟨W0, hW0⟩ : ∃ V, w.alloc (.cells #[.slice none 0 0, .slice none 0 0, .int .i64 0, .bool false, .int .i64 0, .bool false] 67) = V := ⟨_, rfl⟩
  rw [hW0] at hb0 hp0 ⊢
  have HP := Lib.hid hp0
  have HB0 := Lib.hid hb0
  have HS := Lib.hid (PStep.refl w.heap.size (.slice none 0 0) (.slice none 0 0) W0)
  clear hW0 hb0 hp0
  go_wp2_with (first
    | (go_at_call 28; (with_reducible refine Calls.mono (word_any _ _) ?_); rintro e w9 ⟨rfl, hb⟩; replace HP := Lib.hid (HP.out.below hb); replace HS := Lib.hid (HS.out.trans (PStep.below hb)); clear hb)
    | (go_at_call 29; (with_reducible refine Calls.mono (rule_any _ _) ?_); rintro e w9 ⟨rfl, hb⟩; replace HP := Lib.hid (HP.out.below hb); replace HS := Lib.hid (HS.out.trans (PStep.below hb)); clear hb)
    | (go_at_call 31; refine Calls.mono (end_any 1 _) ?_; rintro e w9 ⟨rfl, hb⟩; replace HP := Lib.hid (HP.out.below hb); replace HS := Lib.hid (HS.out.trans (PStep.below hb)); clear hb)
    | (go_at_call 27; refine (push_new HP.out newPar.todo 6 [.string ⟨#[112, 114, 111, 103, 114, 97, 109]⟩, .int .u8 0, .nilFunc, .string ⟨#[64, 110, 97, 109, 101]⟩, .int .u8 0, .nilFunc, .string ⟨#[59]⟩, .int .u8 0, .nilFunc, .string ⟨#[]⟩, .int .u8 0, .func (.func 30) #[] #[], .string ⟨#[46]⟩, .int .u8 0, .nilFunc, .string ⟨#[]⟩, .int .u8 1, .nilFunc] rfl rfl (by decide) (by decide)).mono ?_; rintro e w9 ⟨rfl, vt9, hP9, hs9⟩; have HP9 := Lib.hid hP9; have HS9 := Lib.hid (HS.out.trans hs9); clear hP9 hs9))
  go_ret
  refine ⟨_, rfl, ⟨by have h := HP9.out; rw [List.append_nil] at h; exact h, ?_, by decide, by decide, by decide⟩, ?_⟩
  · intro k hk
    simp only [newPar, List.mem_cons, List.not_mem_nil, or_false, reduceCtorEq, false_or, WT.fin.injEq] at hk
    omega
  · refine ⟨HS9.out.os.trans HB0.out.os, HS9.out.tape.trans HB0.out.tape, HS9.out.output.trans HB0.out.output, Nat.le_trans HB0.out.size HS9.out.size, fun q hq => (HS9.out.block q (Nat.lt_of_lt_of_le hq HB0.out.size) (by omega) (by simp [Value.ownBlock]) (by simp [Value.ownBlock])).trans (HB0.out.block q hq)⟩
end Go.Proofs.Ytmjbpgnjgblnmaa
